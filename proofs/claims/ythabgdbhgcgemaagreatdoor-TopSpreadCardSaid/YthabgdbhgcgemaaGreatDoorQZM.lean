import Derived.Test.YthabgdbhgcgemaaGreatDoorQZL
namespace Go.Proofs.YthabgdbhgcgemaaGreatDoor
set_option linter.unusedVariables false
set_option linter.unusedSimpArgs false
open Go Go.RowKit
open Enc (enc)
set_option maxRecDepth 20000
structure LayV where
  zone : ZoneV
  beh : Slc Bytes
instance : Enc LayV where
  size := 3
  enc l := [strV l.zone.apex, .slice l.zone.sets.A l.zone.sets.len l.zone.sets.cap, .slice l.beh.A l.beh.len l.beh.cap]
  good H l := Enc.good H l.zone ∧ l.beh.Good H
  len _ := rfl
  mono hle h := ⟨Enc.mono hle h.1, h.2.mono hle⟩
  one _ := rfl
  pos := by decide
def putZ (l : List Bytes) (x : Bytes) : List Bytes := if x ∈ l then l else l ++ [x]
theorem aPut_oldZ {κ : Type} [DecidableEq κ] {a : κ} {l : List κ} (h : a ∈ l) : aPut a (.bool true) (l.map fun x => (x, Value.bool true)) = l.map fun x => (x, Value.bool true) := by
  unfold aPut
  cases hf : aFind a (l.map fun x => (x, Value.bool true)) 0 with
  | none =>
    rw [aFind_none] at hf
    exact absurd rfl (hf (a, .bool true) (List.mem_map.2 ⟨a, h, rfl⟩))
  | some p =>
    obtain ⟨j, v⟩ := p
    have h2 := (aFind_some hf).2
    rw [Nat.sub_zero] at h2
    obtain ⟨x, hx, he⟩ := List.mem_map.1 (List.mem_of_getElem? h2)
    simp only [Prod.mk.injEq] at he
    obtain ⟨rfl, rfl⟩ := he
    obtain ⟨hj, e⟩ := List.getElem?_eq_some_iff.1 h2
    show (l.map _).set j _ = _
    rw [← e, List.set_getElem_self]
theorem aPut_putZ {l : List Bytes} {x : Bytes} : aPut x (.bool true) (l.map fun x => (x, Value.bool true)) = (putZ l x).map fun x => (x, Value.bool true) := by
  unfold putZ
  by_cases h : x ∈ l
  · rw [if_pos h]
    exact aPut_oldZ h
  · rw [if_neg h]; exact aPut_set h
theorem mem_putZ {l : List Bytes} {x y : Bytes} : y ∈ putZ l x ↔ y ∈ l ∨ y = x := by
  unfold putZ
  split
  · rename_i h
    exact ⟨.inl, fun k => k.elim id (fun e => e ▸ h)⟩
  · simp
theorem mput_toZ {κ : Type} [DecidableEq κ] {L L' : List Loc} {i b : Nat} {mk : κ → Value} {a : κ} {v : Value} {l l' : List (κ × Value)} (h : aPut a v l = l') (hL : L.set i (.any b (mObj mk l')) = L') : L.set i (.any b (mObj mk (aPut a v l))) = L' := by rw [h]; exact hL
def msUp (z : ZoneV) (k : Nat) : List Bytes := (cutsUp z k).foldl putZ []
theorem mem_foldZ : ∀ {l acc : List Bytes} {y : Bytes}, y ∈ l.foldl putZ acc ↔ y ∈ acc ∨ y ∈ l
  | [], acc, y => by simp
  | x :: t, acc, y => by
    rw [List.foldl_cons, mem_foldZ, mem_putZ, List.mem_cons, or_assoc]
theorem msUp_next {z : ZoneV} {k : Nat} (hk : k < z.sets.els.length) : msUp z (k + 1) = if decide (z.sets.els[k].set.typ = 2) && !decide (z.sets.els[k].set.name = z.apex) then putZ (msUp z k) z.sets.els[k].set.name else msUp z k := by
  unfold msUp
  rw [cutsUp_next hk, List.foldl_append]
  split <;> rfl
theorem msUp_all (z : ZoneV) {k : Nat} (hk : z.sets.els.length ≤ k) (n : Bytes) : decide (n ∈ msUp z k) = isCut z.c n := by
  unfold isCut
  rw [← cutsUp_all z hk]
  exact decide_eq_decide.2 (by unfold msUp; rw [mem_foldZ]; simp)
set_option maxHeartbeats 8000000 in
theorem c_lay (z : ZoneV) (hO : OneZ z.c) {H : Hp} {w : World} (hs : Sat H w) (hz : Enc.good H z) : Calls Tryz.prog 75 #[.agg (enc z).toArray] w (RetF w H (fun p : Hp × LayV => (p.2.zone = z ∧ p.2.beh.els = behT (behRZ z.c)) ∧ Enc.good p.1 p.2) (fun p => .agg (enc p.2).toArray) (fun p => p.1)) := by
  have hg := hz.2
  have hlen := hg.len
  have hlim := hg.lim
  have hf : z.sets.len ≤ 20000 := by have := hO.few; rw [setsC_len] at this; omega
  obtain ⟨B, hB⟩ : ∃ B, behT (behRZ z.c) = B := ⟨_, rfl⟩
  have hBl : B.length = z.sets.len := by rw [← hB, behT_len, hlen]
  rw [hB]
  refine T.enter (vs := [.agg (enc z).toArray]) (H := H) Tryz.func75 rfl rfl rfl hs ?_
  repeat (any_goals (first | refine T.seq ?_ | refine T.region ?_ | refine TL.nil ?_ | refine N.next ?_ | refine T.block ?_ | (apply TL.x; rfl; rfl; (apply X.box (d := 1); rfl; rfl; rfl); intro b1 _) | (apply TL.x; rfl; rfl; (apply X.alloc (d := 2); rfl; rfl; rfl); intro b2 _) | (apply TL.x; rfl; rfl; (apply X.makeMap (fun a : Bytes => strV a); rfl); intro bm _) | (apply TL.val; rfl; rfl; (first | exact vpure | exact vread))))
  refine T.loop (G := Nat) (fun k => [(1, .pointer (some ⟨b1, 0, none⟩)), (2, .pointer (some ⟨b2, 0, none⟩)), (3, .map (some bm)), (16, z.sets.v), (17, intV z.sets.len), (18, intV k)]) (fun _ => H) (fun k => [.any bm (mObj (fun a : Bytes => strV a) ((msUp z k).map fun x => (x, Value.bool true))), .blk b2 135 [strV [], .slice none 0 0, .slice none 0 0], .blk b1 116 (enc z)]) (fun k => k ≤ z.sets.len) (fun k => z.sets.len - k) 0 (Nat.zero_le _) (by (repeat (first | exact True.intro | refine ⟨rfl, ?_⟩ | refine Sub.int rfl (by omega) ?_))) rfl (by (repeat (first | exact List.Sublist.refl _ | exact List.nil_sublist _ | apply List.Sublist.cons_cons | apply List.Sublist.cons))) ?_
  intro k hk
  by_cases hlt : k < z.sets.len
  · have hkl : k < z.sets.els.length := by omega
    have hrow := hg.row (k := k) hlt
    have hup := msUp_next hkl
    obtain ⟨x, hx⟩ : ∃ x, z.sets.els[k]'hkl = x := ⟨_, rfl⟩
    rw [hx] at hup
    try rw [hx] at hrow
    obtain ⟨ms, hms⟩ : ∃ ms, msUp z k = ms := ⟨_, rfl⟩
    rw [hms] at hup ⊢
    repeat (any_goals (first | refine T.seq ?_ | refine T.region ?_ | (apply T.regionD wide; rfl) | refine TL.nil ?_ | refine N.next ?_ | refine N.inBlock ?_ | refine N.exit_same ?_ | refine N.exit_then ?_ | refine T.skip ?_ | refine T.exit ?_ | refine T.block ?_ | (apply T.cond_false; rfl) | (apply T.test; rfl; (exact isx); intro _; rotate_left; intro _; rotate_right) | (apply TL.skip; rfl; rfl; rfl) | (apply TL.val; rfl; rfl; (apply V.elem (j := k); (iterate 6 rfl); omega; exact hg.at_ (by omega))) | (apply TL.val; rfl; rfl; (apply V.load_H_row; rfl; rfl; rfl; exact hrow; rfl)) | (apply TL.x; rfl; rfl; (apply X.alloc (d := 5); rfl; rfl; rfl); intro b5 _) | (apply TL.x; rfl; rfl; (apply X.storeTo 0 (enc x); (iterate 10 rfl)); intro _ _) | (apply TL.x; rfl; rfl; (apply X.mput 1 x.set.name; rfl; rfl; exact keyS Tryz.underlying9; (iterate 4 rfl); exact mput_toZ aPut_putZ rfl); intro _ _) | (apply TL.val; rfl; rfl; (first | exact vpure | exact vread)) | (apply GT.pure; (iterate 4 rfl); (first | exact vpure); decide +kernel) | (apply GT.read; (iterate 4 rfl); (first | exact vpure | exact vread); decide +kernel) | (apply GS.grow; rfl; rfl; (first | exact xgrow); intro _ _) | (apply TL.guard; rfl; rfl; rfl; (exact isx); intro _; rotate_left; intro _; rotate_right) | (apply GT.fork1; decide +kernel) | (apply GT.fork2 7; decide +kernel)))
    all_goals (try (exfalso; omega))
    all_goals first
      | (have hc : (decide (x.set.typ = 2) && !decide (x.set.name = z.apex)) = true := by
           rw [decide_eq_true (show x.set.typ = 2 by assumption), decide_eq_false (show ¬ x.set.name = z.apex by assumption)]; rfl
         rw [if_pos hc] at hup
         refine N.round (k + 1) (by show k + 1 ≤ _; omega) (by show z.sets.len - (k + 1) < z.sets.len - k; omega) (by (repeat (first | exact True.intro | refine ⟨rfl, ?_⟩ | refine Sub.int rfl (by omega) ?_))) rfl ?_
         simp only [hup]
         (repeat (first | exact List.Sublist.refl _ | exact List.nil_sublist _ | apply List.Sublist.cons_cons | apply List.Sublist.cons)))
      | (have hc : ¬ (decide (x.set.typ = 2) && !decide (x.set.name = z.apex)) = true := by
           rw [Bool.and_eq_true]
           rintro ⟨f1, f2⟩
           first
             | exact absurd (of_decide_eq_true f1) (by assumption)
             | (rw [decide_eq_true (show x.set.name = z.apex by assumption)] at f2; cases f2)
         rw [if_neg hc] at hup
         refine N.round (k + 1) (by show k + 1 ≤ _; omega) (by show z.sets.len - (k + 1) < z.sets.len - k; omega) (by (repeat (first | exact True.intro | refine ⟨rfl, ?_⟩ | refine Sub.int rfl (by omega) ?_))) rfl ?_
         simp only [hup]
         (repeat (first | exact List.Sublist.refl _ | exact List.nil_sublist _ | apply List.Sublist.cons_cons | apply List.Sublist.cons)))
  · obtain ⟨ms, hms⟩ : ∃ ms, msUp z k = ms := ⟨_, rfl⟩
    have hmem : ∀ n, decide (n ∈ ms) = isCut z.c n := fun n => by rw [← hms]; exact msUp_all z (by omega) n
    rw [hms]
    clear hms
    have h0 : encs (List.replicate z.sets.len ([] : Bytes)) = encs (outsUp B 0) := by unfold outsUp; rw [List.take_zero, List.nil_append, Nat.sub_zero, hBl]
    repeat (any_goals (first | (apply T.seqU 9; rfl) | refine T.region ?_ | refine TL.nil ?_ | refine N.next ?_ | refine N.inBlock ?_ | refine N.exit_same ?_ | refine N.exit_then ?_ | refine T.skip ?_ | refine T.exit ?_ | refine T.block ?_ | (apply T.cond_false; rfl) | (apply T.test; rfl; (exact isx); intro _; rotate_left; intro _; rotate_right) | (apply TL.skip; rfl; rfl; rfl) | (apply TL.val; rfl; rfl; (first | exact vpure | exact vread)) | (apply TL.x; rfl; rfl; (first | exact xgrow | exact xput); intro _ _) | (apply TL.guard; rfl; rfl; rfl; (exact isx); intro _; rotate_left; intro _; rotate_right)))
    all_goals (try (exfalso; omega))
    refine T.cut (G := Bool × Nat × Nat) (fun g => [(1, .pointer (some ⟨b1, 0, none⟩)), (2, .pointer (some ⟨b2, 0, none⟩)), (3, .map (some bm)), (6, .pointer (some ⟨g.2.1, 0, none⟩))]) (fun _ => H) (fun g => match g with
      | (true, b6, bo) => [.row (.slice (some ⟨bo, 0, none⟩) z.sets.len z.sets.len) 9 1 z.sets.len (encs (outsUp B 0)), .blk b6 135 [strV z.apex, .slice z.sets.A z.sets.len z.sets.cap, .slice (some ⟨bo, 0, none⟩) z.sets.len z.sets.len], .any bm (mObj (fun a : Bytes => strV a) (ms.map fun x => (x, Value.bool true))), .blk b2 135 [strV [], .slice none 0 0, .slice none 0 0], .blk b1 116 (enc z)]
      | (false, b6, bo) => [.blk b6 135 [strV z.apex, .slice z.sets.A z.sets.len z.sets.cap, .slice (some ⟨bo, 0, none⟩) z.sets.len z.sets.len], .row (.slice (some ⟨bo, 0, none⟩) z.sets.len z.sets.len) 9 1 z.sets.len (encs (outsUp B 0)), .any bm (mObj (fun a : Bytes => strV a) (ms.map fun x => (x, Value.bool true))), .blk b2 135 [strV [], .slice none 0 0, .slice none 0 0], .blk b1 116 (enc z)]) (fun _ => True) ?_ ?_
    · repeat (any_goals (first | (apply T.regionD wide; rfl) | (apply GS.grow; rfl; rfl; (apply X.makeSlice ([] : Bytes) z.sets.len; (iterate 10 rfl); (refine Nat.le_trans (Nat.mul_le_mul_left _ hf) ?_; decide); (show z.sets.len ≤ 9223372036854775807; omega)); intro bo _) | (apply GT.pure; (iterate 4 rfl); (apply V.build; (iterate 6 rfl)); decide +kernel) | (apply GS.eff; rfl; decide +kernel; rfl; (apply X.storeTo 0 [strV z.apex, .slice z.sets.A z.sets.len z.sets.cap, .slice (some ⟨bo, 0, none⟩) z.sets.len z.sets.len]; (iterate 10 rfl)); intro _ _) | (apply GS.eff; rfl; decide +kernel; rfl; (apply X.storeTo 1 [strV z.apex, .slice z.sets.A z.sets.len z.sets.cap, .slice (some ⟨bo, 0, none⟩) z.sets.len z.sets.len]; (iterate 10 rfl)); intro _ _) | (apply GT.pure; (iterate 4 rfl); (first | exact vpure); decide +kernel) | (apply GT.read; (iterate 4 rfl); (first | exact vpure | exact vread); decide +kernel) | (apply GT.done; decide +kernel; apply N.ofQ) | (apply GT.adv; rfl) | (apply GS.grow; rfl; rfl; (first | exact xgrow); intro _ _) | (apply GT.fork1; decide +kernel) | (apply GT.fork2 7; decide +kernel)))
      all_goals (try (exfalso; omega))
      all_goals simp only [h0]
      all_goals first
        | exact N.cut (true, _, _) trivial (by (repeat (first | exact True.intro | refine ⟨rfl, ?_⟩ | refine Sub.int rfl (by omega) ?_))) rfl (List.Sublist.refl _)
        | exact N.cut (false, _, _) trivial (by (repeat (first | exact True.intro | refine ⟨rfl, ?_⟩ | refine Sub.int rfl (by omega) ?_))) rfl (List.Sublist.refl _)
        | trace_state
    rintro ⟨sw, b6, bo⟩ _
    refine T.perm [.blk b6 135 [strV z.apex, .slice z.sets.A z.sets.len z.sets.cap, .slice (some ⟨bo, 0, none⟩) z.sets.len z.sets.len], .row (.slice (some ⟨bo, 0, none⟩) z.sets.len z.sets.len) 9 1 z.sets.len (encs (outsUp B 0)), .any bm (mObj (fun a : Bytes => strV a) (ms.map fun x => (x, Value.bool true))), .blk b2 135 [strV [], .slice none 0 0, .slice none 0 0], .blk b1 116 (enc z)] (by cases sw; exact List.Perm.refl _; exact List.Perm.swap _ _ _) ?_
    repeat (any_goals (first | refine T.seq ?_ | refine T.region ?_ | refine TL.nil ?_ | refine N.next ?_ | refine T.block ?_ | (apply TL.val; rfl; rfl; (first | exact vpure | exact vread))))
    refine T.loop (G := Nat) (fun i => [(1, .pointer (some ⟨b1, 0, none⟩)), (2, .pointer (some ⟨b2, 0, none⟩)), (3, .map (some bm)), (6, .pointer (some ⟨b6, 0, none⟩)), (7, strV (prevT B i)), (49, z.sets.v), (50, intV z.sets.len), (51, intV i)]) (fun _ => H) (fun i => [.blk b6 135 [strV z.apex, .slice z.sets.A z.sets.len z.sets.cap, .slice (some ⟨bo, 0, none⟩) z.sets.len z.sets.len], .row (.slice (some ⟨bo, 0, none⟩) z.sets.len z.sets.len) 9 1 z.sets.len (encs (outsUp B i)), .any bm (mObj (fun a : Bytes => strV a) (ms.map fun x => (x, Value.bool true))), .blk b2 135 [strV [], .slice none 0 0, .slice none 0 0], .blk b1 116 (enc z)]) (fun i => i ≤ z.sets.len) (fun i => z.sets.len - i) 0 (Nat.zero_le _) (by (repeat (first | exact True.intro | refine ⟨rfl, ?_⟩ | refine Sub.int rfl (by omega) ?_))) rfl (by (repeat (first | exact List.Sublist.refl _ | exact List.nil_sublist _ | apply List.Sublist.cons_cons | apply List.Sublist.cons))) ?_
    intro i hi
    by_cases hlt : i < z.sets.len
    · have hiz : i < z.sets.els.length := by omega
      have hiB : i < B.length := by omega
      have hrow := hg.row (k := i) hlt
      have hxn := hO.names _ (List.getElem_mem hiz)
      have hBi : B[i] = stepT z.c (prevT B i) z.sets.els[i].set.name := by
        have h1 := lay_step hO (i := i) (by rw [namesZ_len]; exact hiz)
        rw [hB, namesZ_at hiz, List.getElem?_eq_getElem hiB] at h1
        exact Option.some.inj h1
      have hcn := lay_prev hO i
      rw [hB] at hcn
      have hpn : prevT B (i + 1) = B[i] := by
        unfold prevT
        rw [if_neg (Nat.succ_ne_zero i), Nat.add_sub_cancel, List.getD_eq_getElem?_getD, List.getElem?_eq_getElem hiB]; rfl
      obtain ⟨x, hx⟩ : ∃ x, z.sets.els[i]'hiz = x := ⟨_, rfl⟩
      rw [hx] at hBi hxn
      try rw [hx] at hrow
      obtain ⟨c, hc⟩ : ∃ c, prevT B i = c := ⟨_, rfl⟩
      rw [hc] at hBi hcn ⊢
      have ho := outsUp_at hiB
      have hget := (aGet_set x.set.name ms).trans (congrArg Value.bool ((decide_eq_decide.2 Iff.rfl).trans (hmem x.set.name)))
      have hxne := name_ne hxn
      obtain ⟨q, hq⟩ : ∃ q, isCut z.c x.set.name = q := ⟨_, rfl⟩
      rw [hq] at hget
      by_cases hce : c = []
      · subst hce
        cases q with
        | false =>
          have hBv : B[i] = [] := by rw [hBi]; simp [stepT, keepT, hq]
          repeat (any_goals (first | refine T.seq ?_ | refine T.region ?_ | refine TL.nil ?_ | refine N.next ?_ | refine N.inBlock ?_ | refine N.exit_same ?_ | refine N.exit_then ?_ | refine T.ret ?_ | refine T.skip ?_ | refine T.exit ?_ | refine T.block ?_ | (apply T.cond_false; rfl) | (apply T.test; rfl; (exact isx); intro _; rotate_left; intro _; rotate_right) | (apply TL.val; rfl; rfl; (apply V.elem (j := i); (iterate 6 rfl); omega; exact hg.at_ (by omega))) | (apply TL.val; rfl; rfl; (apply V.load_H_row; rfl; rfl; rfl; exact hrow; rfl)) | (apply TL.x; rfl; rfl; (apply X.alloc (d := 9); rfl; rfl; rfl); intro b9 _) | (apply TL.x; rfl; rfl; (apply X.storeTo 0 (enc x); (iterate 10 rfl)); intro _ _) | (apply TL.val; rfl; rfl; (apply V.mlookup (mk := fun a : Bytes => strV a) x.set.name; rfl; rfl; rfl; exact keyS Tryz.underlying9; rfl; rfl; (exact lmem); exact hget)) | (apply TL.val; rfl; rfl; (apply V.elem (j := i); (iterate 6 rfl); exact hlt; rfl)) | (apply TL.x; rfl; rfl; (exact X.storeRowE 2 (vs := [strV ([] : Bytes)]) (ys := encs (outsUp B (i + 1))) rfl rfl rfl rfl rfl rfl rfl (by show 0 + i * 1 + 1 ≤ z.sets.len * 1; omega) (by rw [outsUp_next hiB, hBv]; exact encs_put (j := 0) (y := ([] : Bytes)) ho (by show 0 + 1 ≤ 1; omega) rfl (by show 0 + i * 1 = i * 1 + 0; omega))); intro _ _) | (apply TL.val; rfl; rfl; (first | exact vpure | exact vread)) | (apply TL.x; rfl; rfl; (first | exact xgrow | exact xput); intro _ _)))
          all_goals (try contradiction)
          all_goals (try (exfalso; omega))
          refine N.round (i + 1) (by show i + 1 ≤ _; omega) (by show z.sets.len - (i + 1) < z.sets.len - i; omega) (by simp only [show prevT B (i + 1) = ([] : Bytes) from (hpn.trans hBv)]; (repeat (first | exact True.intro | refine ⟨rfl, ?_⟩ | refine Sub.int rfl (by omega) ?_))) rfl (by (repeat (first | exact List.Sublist.refl _ | exact List.nil_sublist _ | apply List.Sublist.cons_cons | apply List.Sublist.cons)))
        | true =>
          have hBv : B[i] = x.set.name := by rw [hBi]; simp [stepT, keepT, hq]
          repeat (any_goals (first | refine T.seq ?_ | refine T.region ?_ | refine TL.nil ?_ | refine N.next ?_ | refine N.inBlock ?_ | refine N.exit_same ?_ | refine N.exit_then ?_ | refine T.ret ?_ | refine T.skip ?_ | refine T.exit ?_ | refine T.block ?_ | (apply T.cond_true; rfl) | (apply T.cond_false; rfl) | (apply T.test; rfl; (exact isx); intro _; rotate_left; intro _; rotate_right) | (apply TL.val; rfl; rfl; (apply V.elem (j := i); (iterate 6 rfl); omega; exact hg.at_ (by omega))) | (apply TL.val; rfl; rfl; (apply V.load_H_row; rfl; rfl; rfl; exact hrow; rfl)) | (apply TL.x; rfl; rfl; (apply X.alloc (d := 9); rfl; rfl; rfl); intro b9 _) | (apply TL.x; rfl; rfl; (apply X.storeTo 0 (enc x); (iterate 10 rfl)); intro _ _) | (apply TL.val; rfl; rfl; (apply V.mlookup (mk := fun a : Bytes => strV a) x.set.name; rfl; rfl; rfl; exact keyS Tryz.underlying9; rfl; rfl; (exact lmem); exact hget)) | (apply TL.val; rfl; rfl; (apply V.elem (j := i); (iterate 6 rfl); exact hlt; rfl)) | (apply TL.x; rfl; rfl; (exact X.storeRowE 2 (vs := [strV x.set.name]) (ys := encs (outsUp B (i + 1))) rfl rfl rfl rfl rfl rfl rfl (by show 0 + i * 1 + 1 ≤ z.sets.len * 1; omega) (by rw [outsUp_next hiB, hBv]; exact encs_put (j := 0) (y := x.set.name) ho (by show 0 + 1 ≤ 1; omega) rfl (by show 0 + i * 1 = i * 1 + 0; omega))); intro _ _) | (apply TL.val; rfl; rfl; (first | exact vpure | exact vread)) | (apply TL.x; rfl; rfl; (first | exact xgrow | exact xput); intro _ _)))
          all_goals (try contradiction)
          all_goals (try (exfalso; omega))
          refine N.round (i + 1) (by show i + 1 ≤ _; omega) (by show z.sets.len - (i + 1) < z.sets.len - i; omega) (by simp only [show prevT B (i + 1) = x.set.name from (hpn.trans hBv)]; (repeat (first | exact True.intro | refine ⟨rfl, ?_⟩ | refine Sub.int rfl (by omega) ?_))) rfl (by (repeat (first | exact List.Sublist.refl _ | exact List.nil_sublist _ | apply List.Sublist.cons_cons | apply List.Sublist.cons)))
      · have hcok := hcn.resolve_left hce
        obtain ⟨u, hu⟩ : ∃ u, inN x.set.name c = u := ⟨_, rfl⟩
        cases u with
        | true =>
          have hBv : B[i] = c := by rw [hBi]; simp [stepT, keepT, hu, hce]
          repeat (any_goals (first | refine T.seq ?_ | refine T.region ?_ | refine TL.nil ?_ | refine N.next ?_ | refine N.inBlock ?_ | refine N.exit_same ?_ | refine N.exit_then ?_ | refine T.ret ?_ | refine T.skip ?_ | refine T.exit ?_ | refine T.block ?_ | (apply T.cond_false; rfl) | (apply T.test; rfl; (exact isx); intro _; rotate_left; intro _; rotate_right) | (apply TL.skip; rfl; rfl; rfl) | (apply TL.val; rfl; rfl; (apply V.elem (j := i); (iterate 6 rfl); omega; exact hg.at_ (by omega))) | (apply TL.val; rfl; rfl; (apply V.load_H_row; rfl; rfl; rfl; exact hrow; rfl)) | (apply TL.x; rfl; rfl; (apply X.alloc (d := 9); rfl; rfl; rfl); intro b9 _) | (apply TL.x; rfl; rfl; (apply X.storeTo 0 (enc x); (iterate 10 rfl)); intro _ _) | (apply TL.callE (f := 130) [strV x.set.name, strV c] Tryz.call130; (iterate 4 rfl); (exact fun _ hs => c_UnderIn x.set.name c hxn hcok hu hs.sat)) | (apply TL.val; rfl; rfl; (apply V.mlookup (mk := fun a : Bytes => strV a) x.set.name; rfl; rfl; rfl; exact keyS Tryz.underlying9; rfl; rfl; (exact lmem); exact hget)) | (apply TL.val; rfl; rfl; (apply V.elem (j := i); (iterate 6 rfl); exact hlt; rfl)) | (apply TL.x; rfl; rfl; (exact X.storeRowE 2 (vs := [strV c]) (ys := encs (outsUp B (i + 1))) rfl rfl rfl rfl rfl rfl rfl (by show 0 + i * 1 + 1 ≤ z.sets.len * 1; omega) (by rw [outsUp_next hiB, hBv]; exact encs_put (j := 0) (y := c) ho (by show 0 + 1 ≤ 1; omega) rfl (by show 0 + i * 1 = i * 1 + 0; omega))); intro _ _) | (apply TL.val; rfl; rfl; (first | exact vpure | exact vread)) | (apply TL.x; rfl; rfl; (first | exact xgrow | exact xput); intro _ _) | (apply TL.guard; rfl; rfl; rfl; (exact isx); intro _; rotate_left; intro _; rotate_right)))
          all_goals (try contradiction)
          all_goals (try (exfalso; omega))
          refine N.round (i + 1) (by show i + 1 ≤ _; omega) (by show z.sets.len - (i + 1) < z.sets.len - i; omega) (by simp only [show prevT B (i + 1) = c from (hpn.trans hBv)]; (repeat (first | exact True.intro | refine ⟨rfl, ?_⟩ | refine Sub.int rfl (by omega) ?_))) rfl (by (repeat (first | exact List.Sublist.refl _ | exact List.nil_sublist _ | apply List.Sublist.cons_cons | apply List.Sublist.cons)))
        | false =>
          cases q with
          | false =>
            have hBv : B[i] = [] := by rw [hBi]; simp [stepT, keepT, hq, hu]
            repeat (any_goals (first | refine T.seq ?_ | refine T.region ?_ | refine TL.nil ?_ | refine N.next ?_ | refine N.inBlock ?_ | refine N.exit_same ?_ | refine N.exit_then ?_ | refine T.ret ?_ | refine T.skip ?_ | refine T.exit ?_ | refine T.block ?_ | (apply T.cond_true; rfl) | (apply T.cond_false; rfl) | (apply T.test; rfl; (exact isx); intro _; rotate_left; intro _; rotate_right) | (apply TL.skip; rfl; rfl; rfl) | (apply TL.val; rfl; rfl; (apply V.elem (j := i); (iterate 6 rfl); omega; exact hg.at_ (by omega))) | (apply TL.val; rfl; rfl; (apply V.load_H_row; rfl; rfl; rfl; exact hrow; rfl)) | (apply TL.x; rfl; rfl; (apply X.alloc (d := 9); rfl; rfl; rfl); intro b9 _) | (apply TL.x; rfl; rfl; (apply X.storeTo 0 (enc x); (iterate 10 rfl)); intro _ _) | (apply TL.callE (f := 130) [strV x.set.name, strV c] Tryz.call130; (iterate 4 rfl); (exact fun _ hs => c_UnderIn x.set.name c hxn hcok hu hs.sat)) | (apply TL.val; rfl; rfl; (apply V.mlookup (mk := fun a : Bytes => strV a) x.set.name; rfl; rfl; rfl; exact keyS Tryz.underlying9; rfl; rfl; (exact lmem); exact hget)) | (apply TL.val; rfl; rfl; (apply V.elem (j := i); (iterate 6 rfl); exact hlt; rfl)) | (apply TL.x; rfl; rfl; (exact X.storeRowE 2 (vs := [strV ([] : Bytes)]) (ys := encs (outsUp B (i + 1))) rfl rfl rfl rfl rfl rfl rfl (by show 0 + i * 1 + 1 ≤ z.sets.len * 1; omega) (by rw [outsUp_next hiB, hBv]; exact encs_put (j := 0) (y := ([] : Bytes)) ho (by show 0 + 1 ≤ 1; omega) rfl (by show 0 + i * 1 = i * 1 + 0; omega))); intro _ _) | (apply TL.val; rfl; rfl; (first | exact vpure | exact vread)) | (apply TL.x; rfl; rfl; (first | exact xgrow | exact xput); intro _ _) | (apply TL.guard; rfl; rfl; rfl; (exact isx); intro _; rotate_left; intro _; rotate_right)))
            all_goals (try contradiction)
            all_goals (try (exfalso; omega))
            refine N.round (i + 1) (by show i + 1 ≤ _; omega) (by show z.sets.len - (i + 1) < z.sets.len - i; omega) (by simp only [show prevT B (i + 1) = ([] : Bytes) from (hpn.trans hBv)]; (repeat (first | exact True.intro | refine ⟨rfl, ?_⟩ | refine Sub.int rfl (by omega) ?_))) rfl (by (repeat (first | exact List.Sublist.refl _ | exact List.nil_sublist _ | apply List.Sublist.cons_cons | apply List.Sublist.cons)))
          | true =>
            have hBv : B[i] = x.set.name := by rw [hBi]; simp [stepT, keepT, hq, hu]
            repeat (any_goals (first | refine T.seq ?_ | refine T.region ?_ | refine TL.nil ?_ | refine N.next ?_ | refine N.inBlock ?_ | refine N.exit_same ?_ | refine N.exit_then ?_ | refine T.ret ?_ | refine T.skip ?_ | refine T.exit ?_ | refine T.block ?_ | (apply T.cond_true; rfl) | (apply T.cond_false; rfl) | (apply T.test; rfl; (exact isx); intro _; rotate_left; intro _; rotate_right) | (apply TL.skip; rfl; rfl; rfl) | (apply TL.val; rfl; rfl; (apply V.elem (j := i); (iterate 6 rfl); omega; exact hg.at_ (by omega))) | (apply TL.val; rfl; rfl; (apply V.load_H_row; rfl; rfl; rfl; exact hrow; rfl)) | (apply TL.x; rfl; rfl; (apply X.alloc (d := 9); rfl; rfl; rfl); intro b9 _) | (apply TL.x; rfl; rfl; (apply X.storeTo 0 (enc x); (iterate 10 rfl)); intro _ _) | (apply TL.callE (f := 130) [strV x.set.name, strV c] Tryz.call130; (iterate 4 rfl); (exact fun _ hs => c_UnderIn x.set.name c hxn hcok hu hs.sat)) | (apply TL.val; rfl; rfl; (apply V.mlookup (mk := fun a : Bytes => strV a) x.set.name; rfl; rfl; rfl; exact keyS Tryz.underlying9; rfl; rfl; (exact lmem); exact hget)) | (apply TL.val; rfl; rfl; (apply V.elem (j := i); (iterate 6 rfl); exact hlt; rfl)) | (apply TL.x; rfl; rfl; (exact X.storeRowE 2 (vs := [strV x.set.name]) (ys := encs (outsUp B (i + 1))) rfl rfl rfl rfl rfl rfl rfl (by show 0 + i * 1 + 1 ≤ z.sets.len * 1; omega) (by rw [outsUp_next hiB, hBv]; exact encs_put (j := 0) (y := x.set.name) ho (by show 0 + 1 ≤ 1; omega) rfl (by show 0 + i * 1 = i * 1 + 0; omega))); intro _ _) | (apply TL.val; rfl; rfl; (first | exact vpure | exact vread)) | (apply TL.x; rfl; rfl; (first | exact xgrow | exact xput); intro _ _) | (apply TL.guard; rfl; rfl; rfl; (exact isx); intro _; rotate_left; intro _; rotate_right)))
            all_goals (try contradiction)
            all_goals (try (exfalso; omega))
            refine N.round (i + 1) (by show i + 1 ≤ _; omega) (by show z.sets.len - (i + 1) < z.sets.len - i; omega) (by simp only [show prevT B (i + 1) = x.set.name from (hpn.trans hBv)]; (repeat (first | exact True.intro | refine ⟨rfl, ?_⟩ | refine Sub.int rfl (by omega) ?_))) rfl (by (repeat (first | exact List.Sublist.refl _ | exact List.nil_sublist _ | apply List.Sublist.cons_cons | apply List.Sublist.cons)))
    · have hie : i = z.sets.len := by omega
      subst hie
      repeat (any_goals (first | refine T.seq ?_ | refine T.region ?_ | refine TL.nil ?_ | refine N.next ?_ | refine N.exit_same ?_ | refine N.exit_then ?_ | refine T.ret ?_ | refine T.skip ?_ | refine T.exit ?_ | refine T.block ?_ | (apply T.cond_false; rfl) | (apply T.test; rfl; (exact isx); intro _; rotate_left; intro _; rotate_right) | (apply TL.skip; rfl; rfl; rfl) | (apply TL.val; rfl; rfl; (first | exact vpure | exact vread)) | (apply TL.x; rfl; rfl; (first | exact xgrow | exact xput); intro _ _) | (apply TL.guard; rfl; rfl; rfl; (exact isx); intro _; rotate_left; intro _; rotate_right)))
      all_goals (try (exfalso; omega))
      refine N.ret1 rfl (by (exact rvx)) fun w hst => ?_
      rw [outsUp_all (show B.length ≤ z.sets.len by omega)] at hst
      have hbg : ∀ x ∈ B, LenOk x := fun x hx => by
        obtain ⟨i, hi, rfl⟩ := List.mem_iff_getElem.1 hx
        have hp := lay_prev hO (i + 1)
        rw [hB] at hp
        unfold prevT at hp
        rw [if_neg (Nat.succ_ne_zero i), Nat.add_sub_cancel, List.getD_eq_getElem?_getD, List.getElem?_eq_getElem hi] at hp
        rcases hp with h | h
        · have h : B[i] = [] := h
          rw [h]; show LenOk []; decide
        · have := name_len60 (show nameOK B[i] = true from h)
          show _ ≤ 9223372036854775807; omega
      obtain ⟨H', s, e1, e2, e3, e4, e5⟩ := (hst.sub (L' := [.row (.slice (some ⟨bo, 0, none⟩) z.sets.len z.sets.len) 9 1 z.sets.len (encs B)]) (.cons _ (.cons_cons _ (List.nil_sublist _)))).freezeRow rfl hBl hbg
      refine ⟨(H', ⟨z, s⟩), ⟨⟨rfl, e2⟩, Enc.mono e4 hz, e3⟩, ?_, e5.fresh⟩
      show Ending.returned (.agg #[strV z.apex, .slice z.sets.A z.sets.len z.sets.cap, .slice (some ⟨bo, 0, none⟩) z.sets.len z.sets.len]) = .returned (.agg #[strV z.apex, .slice z.sets.A z.sets.len z.sets.cap, s.v])
      rw [e1]
end Go.Proofs.YthabgdbhgcgemaaGreatDoor
