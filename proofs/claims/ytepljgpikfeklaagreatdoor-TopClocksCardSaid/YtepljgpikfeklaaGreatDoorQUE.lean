import Derived.Test.YtepljgpikfeklaaGreatDoorQUD
import Derived.Test.YtepljgpikfeklaaGreatDoorQNP
namespace Go.Proofs.YtepljgpikfeklaaGreatDoor
set_option linter.unusedVariables false
set_option linter.unusedSimpArgs false
open Go Go.RowKit
open Enc (enc)
set_option maxRecDepth 20000
structure KeptV where
  zone : List UInt8
  set : List UInt8
deriving DecidableEq
instance : Enc KeptV where
  size := 2
  enc p := [strV p.zone, strV p.set]
  good _ p := LenOk p.zone ∧ LenOk p.set
  len _ := rfl
  mono _ h := h
  one _ := rfl
  pos := by decide
def kpV (p : KeptV) : Value := .agg (enc p).toArray
theorem eq_Kept (a b : KeptV) (w : World) : (Op.equalIn 10000 105 (.agg (enc a).toArray) (.agg (enc b).toArray)).run Tryz.prog w = .ok (decide (a = b)) w := by
  have hS : Tryz.prog.underlying 105 = some (.struct (Tryz.prog.fieldsOf 105)) := by kernel_rfl
  rw [show (10000 : Nat) = 9999 + 1 from rfl, run_equalIn_agg w 9999 105 _ _ hS Tryz.stoodInHeld105]
  simp only [Program.fieldsOf, Tryz.underlying105]
  have e : decide (a = b) = (decide (a.zone = b.zone) && (decide (a.set = b.set) && true)) := by
    rw [Bool.eq_iff_iff]; cases a; cases b; simp
  rw [e]
  refine eqF_cons (by decide) rfl rfl rfl rfl (eqS Tryz.underlying9) ?_
  refine eqF_cons (by decide) rfl rfl rfl rfl (eqS Tryz.underlying9) ?_
  exact eqF_nil
theorem key_kp : KeyG Tryz.prog 105 kpV where
  find := run_findG (kd := .struct (Tryz.prog.fieldsOf 105)) (by kernel_rfl) (fun _ _ => rfl) (fun a b w => eq_Kept a b w)
  check := fun e a w => by
    have hS : Tryz.prog.underlying 105 = some (.struct (Tryz.prog.fieldsOf 105)) := by kernel_rfl
    obtain ⟨a1, a2⟩ := a
    show (Instr.checkKey e 10000 105 (.agg #[strV a1, strV a2])).run Tryz.prog w = .ok () w
    rw [show (10000 : Nat) = 9999 + 1 from rfl, Instr.checkKey]
    simp only [Sem.run_bind, run_underlying hS, Result.andThen_ok]
    rw [← Array.forIn_toList]
    simp only [Program.fieldsOf, Tryz.underlying105, List.toList_toArray]
    have p1 : (part 9 #[strV a1, strV a2] 0).run Tryz.prog w = .ok (strV a1) w := run_part rfl rfl rfl w
    have p2 : (part 9 #[strV a1, strV a2] 1).run Tryz.prog w = .ok (strV a2) w := run_part rfl rfl rfl w
    simp [List.forIn_cons, Sem.run_bind, p1, p2, checkS Tryz.underlying9]
  bits := fun a => by
    have hs : ∀ x : Bytes, Instr.sameBits 9999 (strV x) (strV x) = true := fun x => by
      simp only [Instr.sameBits]; rw [beq_toListBytes, bytes_eq]; simp
    show ((2 : Nat) == 2 && (Instr.sameBits 9999 (strV a.zone) (strV a.zone) && (Instr.sameBits 9999 (strV a.set) (strV a.set) && true))) = true
    rw [hs, hs]; rfl
def putK {κ : Type} [DecidableEq κ] (l : List κ) (x : κ) : List κ := if x ∈ l then l else l ++ [x]
def metK {κ : Type} (l : List κ) : List (κ × Value) := l.map fun x => (x, Value.bool true)
theorem aPut_putK {κ : Type} [DecidableEq κ] {l : List κ} {x : κ} : aPut x (.bool true) (metK l) = metK (putK l x) := by
  unfold putK metK
  by_cases h : x ∈ l
  · rw [if_pos h]
    exact aPut_oldZ h
  · rw [if_neg h]; exact aPut_set h
theorem mem_putK {κ : Type} [DecidableEq κ] {l : List κ} {x y : κ} : y ∈ putK l x ↔ y ∈ l ∨ y = x := by
  unfold putK
  split
  · rename_i h
    exact ⟨.inl, fun k => k.elim id (fun e => e ▸ h)⟩
  · simp
theorem mput_toK {κ : Type} [DecidableEq κ] {L L' : List Loc} {i b : Nat} {mk : κ → Value} {a : κ} {v : Value} {l l' : List (κ × Value)} (h : aPut a v l = l') (hL : L.set i (.any b (mObj mk l')) = L') : L.set i (.any b (mObj mk (aPut a v l))) = L' := by rw [h]; exact hL
def keptOf (x : HeldV) : KeptV := ⟨x.zone, textC x.signed.c⟩
structure KeysTo (ys : List HeldV) (k : Nat) (l : List KeptV) : Prop where
  mem : ∀ a, a ∈ l ↔ ∃ x ∈ ys.take k, a = keptOf x
theorem KeysTo.start {ys : List HeldV} : KeysTo ys 0 [] := ⟨fun a => ⟨fun h => (by cases h), fun ⟨x, hx, _⟩ => (by cases hx)⟩⟩
theorem KeysTo.next {ys : List HeldV} {k : Nat} {l : List KeptV} (p : KeysTo ys k l) (hk : k < ys.length) : KeysTo ys (k + 1) (putK l (keptOf ys[k])) := ⟨fun a => by
  rw [mem_putK, p.mem, List.take_succ_eq_append_getElem hk]
  constructor
  · rintro (⟨x, hx, e⟩ | e)
    · exact ⟨x, List.mem_append_left _ hx, e⟩
    · exact ⟨_, List.mem_append_right _ (List.mem_singleton.2 rfl), e⟩
  · rintro ⟨x, hx, e⟩
    rcases List.mem_append.1 hx with hx | hx
    · exact .inl ⟨x, hx, e⟩
    · rw [List.mem_singleton.1 hx] at e
      exact .inr e⟩
def entryBy (ys : List HeldV) (t : Int) (e : Entry) : Prop := e.signed.set.data.len = 0 ∨ e.til ≤ t ∨ ∃ x ∈ ys, e.zone = x.zone ∧ textC e.signed.c = textC x.signed.c
instance (ys : List HeldV) (t : Int) (e : Entry) : Decidable (entryBy ys t e) := by unfold entryBy; infer_instance
def allowL (b10 bm : Nat) (l : List KeptV) : List Loc := [.any bm (mObj kpV (metK l))]
set_option maxHeartbeats 8000000 in
theorem c_Allowed (h : HistV) (c : Cache) (t : Int) (hh : HistOK h) (hfew : FewH h) (hok : cacheOK c.c = true) (ht : 0 ≤ t ∧ t ≤ 20000000) {H : Hp} {w : World} (hs : Sat H w) (hR : Rules H) (hT : Pow10 H) (hgd : Enc.good H h) (hgc : Enc.good H c) (hes : ∀ e ∈ c.list.els, ValidS e.signed.c) : Calls Tryz.prog 15 #[.agg (enc h).toArray, .agg (enc c).toArray, intV t] w (fun e w' => ∃ (b : Bool) (all : Slc HeldV), AllOK h all.els ∧ (b = true ↔ ∀ x ∈ c.list.els, entryBy (atZ all t) t x) ∧ e = .returned (.tuple #[.bool b, intV 0]) ∧ Below w.heap.size w w') := by
  have hzone : ∀ c ∈ h.copies.els, ZonedR c.zone.c := fun c hc => by
    obtain ⟨j, hj, rfl⟩ := List.mem_iff_getElem.1 hc
    exact (hh.each j hj hj).1.zone
  have hvalid : ∀ c ∈ h.copies.els, ∀ s ∈ c.zone.sets.els, ValidS s.c := fun c hc s hs => zoned_valid (hzone c hc) (hgd.2.1.els c hc).2.2.2 hs
  refine T.enterM (vs := [.agg (enc h).toArray, .agg (enc c).toArray, intV t]) (H := H) Tryz.func15 rfl rfl rfl hs ?_
  repeat (any_goals (first | refine T.seq ?_ | refine T.region ?_ | refine TL.nil ?_ | refine N.next ?_ | refine N.ret_then ?_ | refine T.ret ?_ | refine T.skip ?_ | refine T.block ?_ | (apply T.cond_true; rfl) | (apply T.cond_false; rfl) | (apply T.test; rfl; (exact isx); intro _; rotate_left; intro _; rotate_right) | (apply TL.skip; rfl; rfl; rfl) | (apply TL.x; rfl; rfl; (apply X.box (d := 3); rfl; rfl; rfl); intro b3 _; apply TL.frzZ 0; rfl; intro H1 z3 hle1; have hgd := Enc.mono hle1 hgd; have hgc := Enc.mono hle1 hgc; have hR := Rules.mono hle1 hR; have hT := Pow10.mono hle1 hT) | (apply TL.x; rfl; rfl; (apply X.box (d := 4); rfl; rfl; rfl); intro b4 _; apply TL.frzZ 0; rfl; intro H2 z4 hle2; have hgd := Enc.mono hle2 hgd; have hgc := Enc.mono hle2 hgc; have hR := Rules.mono hle2 hR; have hT := Pow10.mono hle2 hT; have z3 := Hp.cells_le hle2 z3) | (apply TL.val; rfl; rfl; (apply V.load_H_row; rfl; rfl; rfl; exact z3; rfl)) | (apply TL.val; rfl; rfl; (apply V.load_H_row; rfl; rfl; rfl; exact z4; rfl)) | (apply TL.callE (f := 32) [.agg (enc h).toArray] Tryz.call32; (iterate 4 rfl); (exact fun _ hs => c_historyValid h hh hs.sat hR hgd)) | (apply TL.callE (f := 25) [.agg (enc c).toArray] Tryz.call25; (iterate 4 rfl); (exact fun _ hs => c_validV c hok hs.sat hR hgc)) | (apply TL.x; rfl; rfl; (apply X.callFE (f := 34) [.agg (enc h).toArray] Tryz.call34; rfl; rfl; rfl; exact (fun _ hs => c_All h hh hfew hs.sat hR hT hgd)); rintro ⟨Ha, all⟩ ⟨⟨ha1, ha2⟩, ha3⟩; have hgd := Enc.mono ha3 hgd; have hgc := Enc.mono ha3 hgc; have hT := Pow10.mono ha3 hT; have z4 := Hp.cells_le ha3 z4) | (apply TL.x; rfl; rfl; (apply X.makeMap (d := 38) kpV; rfl); intro bm _) | (apply TL.x; rfl; rfl; (apply X.alloc (d := 10); rfl; rfl; rfl); intro b10 _) | (apply TL.x; rfl; rfl; (apply X.storeTo 0 [.map (some bm)]; (iterate 10 rfl)); intro _ _; apply TL.frzZ 0; rfl; intro H3 z10 hle3; have hgd := Enc.mono hle3 hgd; have hgc := Enc.mono hle3 hgc; have hT := Pow10.mono hle3 hT; have z4 := Hp.cells_le hle3 z4; have ha2 := ha2.mono hle3) | (apply TL.x; rfl; rfl; (apply X.callFE (f := 35) [all.v, intV t] Tryz.call35; rfl; rfl; rfl; exact (fun _ hs => c_hat all t hs.sat)); rintro ⟨Hc, ba, bt⟩ ⟨⟨hp0, hp1, hp2⟩, hp3⟩; have hgd := Enc.mono hp0 hgd; have hgc := Enc.mono hp0 hgc; have hT := Pow10.mono hp0 hT; have z4 := Hp.cells_le hp0 z4; have z10 := Hp.cells_le hp0 z10; have ha2 := ha2.mono hp0) | (apply TL.val; rfl; rfl; (first | exact vpure | exact vread)) | (apply TL.guard; rfl; rfl; rfl; (exact isx); intro _; rotate_left; intro _; rotate_right)))
  all_goals (try contradiction)
  all_goals (try (exfalso; omega))
  obtain ⟨ys, hys⟩ : ∃ ys, atZ all t = ys := ⟨_, rfl⟩
  have hal : all.els.length ≤ 2000 := ha1.len
  have hyl : ys.length ≤ 2000 := by rw [← hys]; exact Nat.le_trans (List.length_filter_le _ _) hal
  have hyin : ∀ x ∈ ys, x ∈ all.els := fun x hx => by rw [← hys] at hx; exact (List.mem_filter.1 hx).1
  refine T.rangeFunc (G := Hp × List KeptV) (fun _ => .normal) (fun g => g.1) (fun g => allowL b10 bm g.2) (fun g => KeysTo ys ys.length g.2 ∧ Hc.le g.1) rfl Tryz.call74 (fun _ _ => trivial) ?_ ?_
  · intro fn a b hf w1 hs1
    have hs1' := hs1.sub (L' := .any (b + 1) (.loop (recd fn a.tmps _ _ _ b .ready none)) :: .any b (.deferred (some [])) :: allowL b10 bm []) (List.Sublist.refl _)
    refine (c_hat1 all t ba bt hp1 hp2 ha2 (G := Hp × List KeptV) (fun k g => KeysTo ys k g.2 ∧ Hc.le g.1) (fun _ => False) (fun g => g.1) (fun g => .any (b + 1) (.loop (recd fn a.tmps _ _ _ b .ready none)) :: .any b (.deferred (some [])) :: allowL b10 bm g.2) (fun k g h => h.2) ?_ (Hc, []) ⟨.start, .refl _⟩ hs1').mono ?_
    · rintro k ⟨Hg, got⟩ ⟨hg1, hg2⟩ hk w2 hs2
      simp only at hg1 hg2 hs2
      simp only [hys] at hk ⊢
      have hnx := hg1.next hk
      obtain ⟨x, hx⟩ : ∃ x, ys[k]'hk = x := ⟨_, rfl⟩
      have hxm := hyin _ (List.getElem_mem hk)
      rw [hx] at hxm hnx ⊢
      have hxg := Enc.mono hg2 (ha2.els x hxm)
      have z10g := Hp.cells_le hg2 z10
      have hTg := Pow10.mono hg2 hT
      have htin : TextIn x.signed.c := by
        obtain ⟨c, hc, _, s, hs, e⟩ := (ha1.each x hxm).src
        rw [e]; exact (hvalid c hc s hs).textIn
      refine yieldAt_ofG (j := 1) (G := Nat) (fun b11 => [(10, .pointer (some ⟨b10, 0, none⟩)), (11, .pointer (some ⟨b11, 0, none⟩))]) (fun b11 => .blk b11 96 (enc x) :: .any (b + 1) (.loop (recd fn a.tmps _ _ _ b .ready none)) :: .any b (.deferred (some [])) :: allowL b10 bm got) (i := 0) hs2 rfl (fun _ => rfl) rfl _ (Fr.round1 hf rfl) ?_ ?_
      · repeat (any_goals (first | refine T.region ?_ | refine TL.nil ?_ | (apply TL.x; rfl; rfl; (apply X.storeTo 0 (enc x); (iterate 10 rfl)); intro _ _) | (apply TL.x; rfl; rfl; (first | exact xgrow | exact xput); intro _ _)))
        all_goals (try contradiction)
        rename_i b11 _ _ _
        exact N.bothG b11 (by (repeat (first | exact True.intro | refine ⟨rfl, ?_⟩ | refine Sub.int rfl (by omega) ?_))) (List.Sublist.refl _)
      · intro b11
        simp only [List.set_cons_succ, List.set_cons_zero]
        unfold allowL
        repeat (any_goals (first | (apply T.regionDS (id := 9) [.blk b11 96 (enc x)] wide; rfl; (repeat (first | exact List.Sublist.refl _ | exact List.nil_sublist _ | apply List.Sublist.cons_cons | apply List.Sublist.cons))) | refine N.inBlock ?_ | refine T.block ?_ | (apply GT.read; (iterate 4 rfl); (apply V.load_H; rfl; rfl; rfl; exact z10g 0 _ rfl); decide +kernel) | (apply GT.callE (f := 36) [.agg (enc x.signed).toArray] Tryz.call36; (iterate 6 rfl); (exact fun _ hs => c_textHolds x.signed htin hs.sat hTg hxg.2.1); decide +kernel) | (apply GT.pure; (iterate 4 rfl); (apply V.build; (iterate 6 rfl)); decide +kernel) | (apply GS.eff; rfl; decide +kernel; rfl; (apply X.mputG (mk := kpV) 3 (keptOf x); rfl; rfl; exact key_kp; (iterate 4 rfl); exact mput_toK aPut_putK rfl); intro _ _) | (apply GT.pure; (iterate 4 rfl); (first | exact vpure); decide +kernel) | (apply GT.read; (iterate 4 rfl); (first | exact vpure | exact vread); decide +kernel) | (apply GT.done; decide +kernel; apply N.ofQ) | (apply GT.fork1; decide +kernel)))
        all_goals (try contradiction)
        refine N.round_out (i := 1) (e := .normal) trivial rfl fun w hs => ⟨true, (Hg, putK got (keptOf x)), rfl, ?_, hs.sub (.cons _ (List.Sublist.refl _))⟩
        rw [if_pos rfl]
        exact ⟨hnx, hg2⟩
    · rintro e w2 ⟨v, g, rfl, (hΦ | hF), hs2⟩
      · rw [hys] at hΦ
        exact ⟨g, v, .ready, rfl, hΦ, by simp, hs2⟩
      · exact hF.elim
  · rintro b ⟨Hg, got⟩ ⟨hg1, hg2⟩
    show N _ _ _ _ .normal _ _ _
    simp only at hg1 hg2
    unfold allowL
    have z4g := Hp.cells_le hg2 z4
    have z10g := Hp.cells_le hg2 z10
    have hTg := Pow10.mono hg2 hT
    have hcg : c.list.Good Hg := Enc.mono hg2 hgc
    have hcl := hcg.len
    have hcm := hcg.lim
    have hkey : ∀ a, a ∈ got ↔ ∃ x ∈ ys, a = keptOf x := fun a => by
      have := hg1.mem a
      rwa [List.take_length] at this
    repeat (any_goals (first | refine T.seq ?_ | refine T.region ?_ | refine TL.nil ?_ | refine N.next ?_ | refine N.inBlock ?_ | refine T.block ?_ | (apply TL.val; rfl; rfl; (apply V.load_H; rfl; rfl; rfl; exact z4g 0 _ rfl)) | (apply TL.val; rfl; rfl; (first | exact vpure | exact vread))))
    refine T.loop (G := Nat) (fun j => [(2, intV t), (10, .pointer (some ⟨b10, 0, none⟩)), (51, c.list.v), (52, intV c.list.len), (53, intV j)]) (fun _ => Hg) (fun _ => [.any b (.deferred (some [])), .any bm (mObj kpV (metK got))]) (fun j => j ≤ c.list.len ∧ ∀ x ∈ c.list.els.take j, entryBy ys t x) (fun j => c.list.len - j) 0 ⟨Nat.zero_le _, fun x hx => (by cases hx)⟩ (by (repeat (first | exact True.intro | refine ⟨rfl, ?_⟩ | refine Sub.int rfl (by omega) ?_))) rfl (by (first | exact List.Sublist.refl _ | exact List.nil_sublist _ | exact List.Sublist.cons _ (List.Sublist.refl _) | exact List.Sublist.cons _ (List.Sublist.cons _ (List.Sublist.refl _)))) ?_
    rintro j ⟨hj, hall⟩
    by_cases hlt : j < c.list.len
    · have hjl : j < c.list.els.length := by omega
      have hrow := hcg.row (k := j) hlt
      have heg := hcg.els _ (List.getElem_mem hjl)
      have htin := (hes _ (List.getElem_mem hjl)).textIn
      have hem := List.getElem_mem hjl
      obtain ⟨e, he⟩ : ∃ e, c.list.els[j]'hjl = e := ⟨_, rfl⟩
      rw [he] at heg htin hem
      try rw [he] at hrow
      have hup : c.list.els.take (j + 1) = c.list.els.take j ++ [e] := by rw [List.take_succ_eq_append_getElem hjl, he]
      have hnext : entryBy ys t e → ∀ x ∈ c.list.els.take (j + 1), entryBy ys t x := fun h1 x hx => by
        rw [hup] at hx
        rcases List.mem_append.1 hx with hx | hx
        · exact hall x hx
        · rw [List.mem_singleton.1 hx]; exact h1
      by_cases hd : e.signed.set.data.len = 0
      · repeat (any_goals (first | (apply T.regionDS (id := 13) [.blk b13 82 (enc e), .any bm (mObj kpV (metK got))] wide; rfl; (repeat (first | exact List.Sublist.refl _ | exact List.nil_sublist _ | apply List.Sublist.cons_cons | apply List.Sublist.cons))) | refine T.seq ?_ | refine T.region ?_ | refine TL.nil ?_ | refine N.next ?_ | refine N.inBlock ?_ | refine N.exit_same ?_ | refine N.exit_then ?_ | refine T.ret ?_ | refine T.skip ?_ | refine T.exit ?_ | refine T.block ?_ | (apply T.cond_false; rfl) | (apply T.test; rfl; (exact isx); intro _; rotate_left; intro _; rotate_right) | (apply GT.skip; rfl; rfl; rfl; decide +kernel) | (apply TL.val; rfl; rfl; (apply V.elem (j := j); (iterate 6 rfl); omega; exact hcg.at_ (by omega))) | (apply TL.val; rfl; rfl; (apply V.load_H_row; rfl; rfl; rfl; exact hrow; rfl)) | (apply TL.x; rfl; rfl; (apply X.alloc (d := 13); rfl; rfl; rfl); intro b13 _) | (apply TL.x; rfl; rfl; (apply X.storeTo 0 (enc e); (iterate 10 rfl)); intro _ _) | (apply GT.read; (iterate 4 rfl); (apply V.load_H; rfl; rfl; rfl; exact z10g 0 _ rfl); decide +kernel) | (apply GT.callE (f := 36) [.agg (enc e.signed).toArray] Tryz.call36; (iterate 6 rfl); (exact fun _ hs => c_textHolds e.signed htin hs.sat hTg heg.1); decide +kernel) | (apply GT.pure; (iterate 4 rfl); (apply V.build; (iterate 6 rfl)); decide +kernel) | (apply TL.val; rfl; rfl; (first | exact vpure | exact vread)) | (apply GT.pure; (iterate 4 rfl); (first | exact vpure); decide +kernel) | (apply GT.read; (iterate 4 rfl); (first | exact vpure | exact vread); decide +kernel) | (apply GT.done; decide +kernel; apply N.ofQ) | (apply GT.guard; (iterate 4 rfl); (exact isx); intro _; rotate_left; intro _; rotate_right) | (apply GT.fork1; decide +kernel)))
        all_goals (try contradiction)
        all_goals (try (exfalso; omega))
        refine N.round (j + 1) ⟨by show j + 1 ≤ _; omega, hnext (.inl hd)⟩ (by show c.list.len - (j + 1) < c.list.len - j; omega) (by (repeat (first | exact True.intro | refine ⟨rfl, ?_⟩ | refine Sub.int rfl (by omega) ?_))) rfl (by (first | exact List.Sublist.refl _ | exact List.nil_sublist _ | exact List.Sublist.cons _ (List.Sublist.refl _) | exact List.Sublist.cons _ (List.Sublist.cons _ (List.Sublist.refl _))))
      · by_cases hu : e.til ≤ t
        · repeat (any_goals (first | (apply T.regionDS (id := 13) [.blk b13 82 (enc e), .any bm (mObj kpV (metK got))] wide; rfl; (repeat (first | exact List.Sublist.refl _ | exact List.nil_sublist _ | apply List.Sublist.cons_cons | apply List.Sublist.cons))) | refine T.seq ?_ | refine T.region ?_ | refine TL.nil ?_ | refine N.next ?_ | refine N.inBlock ?_ | refine N.exit_same ?_ | refine N.exit_then ?_ | refine T.ret ?_ | refine T.skip ?_ | refine T.exit ?_ | refine T.block ?_ | (apply T.cond_false; rfl) | (apply T.test; rfl; (exact isx); intro _; rotate_left; intro _; rotate_right) | (apply GT.skip; rfl; rfl; rfl; decide +kernel) | (apply TL.val; rfl; rfl; (apply V.elem (j := j); (iterate 6 rfl); omega; exact hcg.at_ (by omega))) | (apply TL.val; rfl; rfl; (apply V.load_H_row; rfl; rfl; rfl; exact hrow; rfl)) | (apply TL.x; rfl; rfl; (apply X.alloc (d := 13); rfl; rfl; rfl); intro b13 _) | (apply TL.x; rfl; rfl; (apply X.storeTo 0 (enc e); (iterate 10 rfl)); intro _ _) | (apply GT.read; (iterate 4 rfl); (apply V.load_H; rfl; rfl; rfl; exact z10g 0 _ rfl); decide +kernel) | (apply GT.callE (f := 36) [.agg (enc e.signed).toArray] Tryz.call36; (iterate 6 rfl); (exact fun _ hs => c_textHolds e.signed htin hs.sat hTg heg.1); decide +kernel) | (apply GT.pure; (iterate 4 rfl); (apply V.build; (iterate 6 rfl)); decide +kernel) | (apply TL.val; rfl; rfl; (first | exact vpure | exact vread)) | (apply GT.pure; (iterate 4 rfl); (first | exact vpure); decide +kernel) | (apply GT.read; (iterate 4 rfl); (first | exact vpure | exact vread); decide +kernel) | (apply GT.done; decide +kernel; apply N.ofQ) | (apply GT.guard; (iterate 4 rfl); (exact isx); intro _; rotate_left; intro _; rotate_right) | (apply GT.fork1; decide +kernel)))
          all_goals (try contradiction)
          all_goals (try (exfalso; omega))
          refine N.round (j + 1) ⟨by show j + 1 ≤ _; omega, hnext (.inr (.inl hu))⟩ (by show c.list.len - (j + 1) < c.list.len - j; omega) (by (repeat (first | exact True.intro | refine ⟨rfl, ?_⟩ | refine Sub.int rfl (by omega) ?_))) rfl (by (first | exact List.Sublist.refl _ | exact List.nil_sublist _ | exact List.Sublist.cons _ (List.Sublist.refl _) | exact List.Sublist.cons _ (List.Sublist.cons _ (List.Sublist.refl _))))
        · by_cases hmem : (⟨e.zone, textC e.signed.c⟩ : KeptV) ∈ got
          · have hget : (aGet (⟨e.zone, textC e.signed.c⟩ : KeptV) (metK got)).getD (.bool false) = .bool true := (aGet_set _ got).trans (congrArg Value.bool ((decide_eq_decide.2 Iff.rfl).trans (decide_eq_true hmem)))
            repeat (any_goals (first | (apply T.regionDS (id := 13) [.blk b13 82 (enc e), .any bm (mObj kpV (metK got))] wide; rfl; (repeat (first | exact List.Sublist.refl _ | exact List.nil_sublist _ | apply List.Sublist.cons_cons | apply List.Sublist.cons))) | refine T.seq ?_ | refine T.region ?_ | refine TL.nil ?_ | refine N.next ?_ | refine N.inBlock ?_ | refine N.exit_same ?_ | refine N.exit_then ?_ | refine T.ret ?_ | refine T.skip ?_ | refine T.exit ?_ | refine T.block ?_ | (apply T.cond_false; rfl) | (apply T.test; rfl; (exact isx); intro _; rotate_left; intro _; rotate_right) | (apply GT.skip; rfl; rfl; rfl; decide +kernel) | (apply TL.val; rfl; rfl; (apply V.elem (j := j); (iterate 6 rfl); omega; exact hcg.at_ (by omega))) | (apply TL.val; rfl; rfl; (apply V.load_H_row; rfl; rfl; rfl; exact hrow; rfl)) | (apply TL.x; rfl; rfl; (apply X.alloc (d := 13); rfl; rfl; rfl); intro b13 _) | (apply TL.x; rfl; rfl; (apply X.storeTo 0 (enc e); (iterate 10 rfl)); intro _ _) | (apply GT.read; (iterate 4 rfl); (apply V.load_H; rfl; rfl; rfl; exact z10g 0 _ rfl); decide +kernel) | (apply GT.callE (f := 36) [.agg (enc e.signed).toArray] Tryz.call36; (iterate 6 rfl); (exact fun _ hs => c_textHolds e.signed htin hs.sat hTg heg.1); decide +kernel) | (apply GT.pure; (iterate 4 rfl); (apply V.build; (iterate 6 rfl)); decide +kernel) | (apply GT.read; (iterate 4 rfl); (apply V.mlookupG (mk := kpV) (⟨e.zone, textC e.signed.c⟩ : KeptV); rfl; rfl; rfl; exact key_kp; rfl; rfl; (exact lmem); exact hget); decide +kernel) | (apply TL.val; rfl; rfl; (first | exact vpure | exact vread)) | (apply GT.pure; (iterate 4 rfl); (first | exact vpure); decide +kernel) | (apply GT.read; (iterate 4 rfl); (first | exact vpure | exact vread); decide +kernel) | (apply GT.done; decide +kernel; apply N.ofQ) | (apply GT.guard; (iterate 4 rfl); (exact isx); intro _; rotate_left; intro _; rotate_right)))
            all_goals (try contradiction)
            all_goals (try (exfalso; omega))
            refine N.round (j + 1) ⟨by show j + 1 ≤ _; omega, hnext (.inr (.inr (by obtain ⟨x, hx, e1⟩ := (hkey _).1 hmem; exact ⟨x, hx, congrArg KeptV.zone e1, congrArg KeptV.set e1⟩)))⟩ (by show c.list.len - (j + 1) < c.list.len - j; omega) (by (repeat (first | exact True.intro | refine ⟨rfl, ?_⟩ | refine Sub.int rfl (by omega) ?_))) rfl (by (first | exact List.Sublist.refl _ | exact List.nil_sublist _ | exact List.Sublist.cons _ (List.Sublist.refl _) | exact List.Sublist.cons _ (List.Sublist.cons _ (List.Sublist.refl _))))
          · have hget : (aGet (⟨e.zone, textC e.signed.c⟩ : KeptV) (metK got)).getD (.bool false) = .bool false := (aGet_set _ got).trans (congrArg Value.bool ((decide_eq_decide.2 Iff.rfl).trans (decide_eq_false hmem)))
            repeat (any_goals (first | (apply T.regionDS (id := 13) [.blk b13 82 (enc e), .any bm (mObj kpV (metK got))] wide; rfl; (repeat (first | exact List.Sublist.refl _ | exact List.nil_sublist _ | apply List.Sublist.cons_cons | apply List.Sublist.cons))) | refine T.seq ?_ | refine T.region ?_ | refine TL.nil ?_ | refine N.next ?_ | refine N.inBlock ?_ | refine N.exit_same ?_ | refine N.exit_then ?_ | refine N.ret_then ?_ | refine N.ret_block ?_ | refine T.ret ?_ | refine T.skip ?_ | refine T.exit ?_ | refine T.block ?_ | (apply T.cond_true; rfl) | (apply T.cond_false; rfl) | (apply T.test; rfl; (exact isx); intro _; rotate_left; intro _; rotate_right) | (apply GT.skip; rfl; rfl; rfl; decide +kernel) | (apply TL.val; rfl; rfl; (apply V.elem (j := j); (iterate 6 rfl); omega; exact hcg.at_ (by omega))) | (apply TL.val; rfl; rfl; (apply V.load_H_row; rfl; rfl; rfl; exact hrow; rfl)) | (apply TL.x; rfl; rfl; (apply X.alloc (d := 13); rfl; rfl; rfl); intro b13 _) | (apply TL.x; rfl; rfl; (apply X.storeTo 0 (enc e); (iterate 10 rfl)); intro _ _) | (apply GT.read; (iterate 4 rfl); (apply V.load_H; rfl; rfl; rfl; exact z10g 0 _ rfl); decide +kernel) | (apply GT.callE (f := 36) [.agg (enc e.signed).toArray] Tryz.call36; (iterate 6 rfl); (exact fun _ hs => c_textHolds e.signed htin hs.sat hTg heg.1); decide +kernel) | (apply GT.pure; (iterate 4 rfl); (apply V.build; (iterate 6 rfl)); decide +kernel) | (apply GT.read; (iterate 4 rfl); (apply V.mlookupG (mk := kpV) (⟨e.zone, textC e.signed.c⟩ : KeptV); rfl; rfl; rfl; exact key_kp; rfl; rfl; (exact lmem); exact hget); decide +kernel) | (apply TL.val; rfl; rfl; (first | exact vpure | exact vread)) | (apply GT.pure; (iterate 4 rfl); (first | exact vpure); decide +kernel) | (apply GT.read; (iterate 4 rfl); (first | exact vpure | exact vread); decide +kernel) | (apply GT.done; decide +kernel; apply N.ofQ) | (apply GT.guard; (iterate 4 rfl); (exact isx); intro _; rotate_left; intro _; rotate_right)))
            all_goals (try contradiction)
            all_goals (try (exfalso; omega))
            refine N.marked (i := 1) rfl (N.ret2 rfl (by (exact rvx)) (by (exact rvx)) fun w hst => ⟨false, all, ha1, ?_, rfl, hst.below⟩)
            rw [hys]
            refine ⟨fun h => (by cases h), fun h => ?_⟩
            rcases h e hem with h | h | ⟨x, hx, h1, h2⟩
            · exact absurd h hd
            · exact absurd h hu
            · exact absurd ((hkey _).2 ⟨x, hx, by unfold keptOf; rw [h1, h2]⟩) hmem
    · repeat (any_goals (first | refine T.seq ?_ | refine T.region ?_ | (apply T.regionD wide; rfl) | refine TL.nil ?_ | refine N.next ?_ | refine N.inBlock ?_ | refine N.exit_same ?_ | refine N.exit_then ?_ | refine T.ret ?_ | refine T.skip ?_ | refine T.exit ?_ | refine T.block ?_ | (apply T.cond_false; rfl) | (apply T.test; rfl; (exact isx); intro _; rotate_left; intro _; rotate_right) | (apply GT.skip; rfl; rfl; rfl; decide +kernel) | (apply TL.val; rfl; rfl; (first | exact vpure | exact vread)) | (apply GT.pure; (iterate 4 rfl); (first | exact vpure); decide +kernel) | (apply GT.read; (iterate 4 rfl); (first | exact vpure | exact vread); decide +kernel) | (apply GT.done; decide +kernel; apply N.ofQ) | (apply TL.x; rfl; rfl; (first | exact xgrow | exact xput); intro _ _) | (apply GT.guard; (iterate 4 rfl); (exact isx); intro _; rotate_left; intro _; rotate_right)))
      all_goals (try contradiction)
      all_goals (try (exfalso; omega))
      refine N.marked (i := 0) rfl (N.ret2 rfl (by (exact rvx)) (by (exact rvx)) fun w hst => ⟨true, all, ha1, ?_, rfl, hst.below⟩)
      rw [hys]
      have htk : c.list.els.take j = c.list.els := List.take_of_length_le (by omega)
      rw [htk] at hall
      exact ⟨fun _ => hall, fun _ => rfl⟩
end Go.Proofs.YtepljgpikfeklaaGreatDoor
