import Derived.Test.YtepljgpikfeklaaGreatDoorQZU
namespace Go.Proofs.YtepljgpikfeklaaGreatDoor
set_option linter.unusedVariables false
set_option linter.unusedSimpArgs false
open Go Go.RowKit
open Enc (enc)
set_option maxRecDepth 20000
def uniteS (out : List SpanV) (s : SpanV) : List SpanV :=
  match out.getLast? with
  | some p => if s.frm ≤ p.til then out.set (out.length - 1) ⟨p.frm, if s.til > p.til then s.til else p.til⟩ else out ++ [s]
  | none => out ++ [s]
def uniteC (l : List SpanV) : List SpanV := l.foldl uniteS []
def uniUp (l : List SpanV) (k : Nat) : List SpanV := (l.take k).foldl uniteS []
theorem uniUp_next {l : List SpanV} {k : Nat} (hk : k < l.length) : uniUp l (k + 1) = uniteS (uniUp l k) l[k] := by
  unfold uniUp
  rw [List.take_succ_eq_append_getElem hk, List.foldl_append]; rfl
theorem uniteS_len (out : List SpanV) (s : SpanV) : (uniteS out s).length ≤ out.length + 1 ∧ 0 < (uniteS out s).length := by
  unfold uniteS
  cases h : out.getLast? with
  | none => simp
  | some p =>
    have : out ≠ [] := fun e => by rw [e] at h; cases h
    have := List.length_pos_iff.2 this
    simp only
    split
    · rw [List.length_set]; omega
    · simp
theorem uniUp_len (l : List SpanV) : ∀ k, k ≤ l.length → (uniUp l k).length ≤ k ∧ (0 < k → 0 < (uniUp l k).length)
  | 0, _ => by simp [uniUp]
  | k + 1, h => by
    have h1 := uniteS_len (uniUp l k) (l[k]'(by omega))
    have h2 := uniUp_len l k (by omega)
    rw [uniUp_next (by omega)]
    exact ⟨by omega, fun _ => h1.2⟩
theorem uniteS_good {out : List SpanV} {s : SpanV} {H : Hp} (ho : ∀ x ∈ out, Enc.good H x) (hs : Enc.good H s) : ∀ x ∈ uniteS out s, Enc.good H x := fun x hx => by
  unfold uniteS at hx
  cases h : out.getLast? with
  | none =>
    rw [h] at hx
    rcases List.mem_append.1 hx with hx | hx
    · exact ho x hx
    · rw [List.mem_singleton.1 hx]; exact hs
  | some p =>
    rw [h] at hx
    simp only at hx
    have hp := ho p (List.mem_of_getLast? h)
    split at hx
    · rcases List.mem_or_eq_of_mem_set hx with hx | hx
      · exact ho x hx
      · rw [hx]
        refine ⟨hp.1, ?_⟩
        show I64 (if s.til > p.til then s.til else p.til)
        split
        · exact hs.2
        · exact hp.2
    · rcases List.mem_append.1 hx with hx | hx
      · exact ho x hx
      · rw [List.mem_singleton.1 hx]; exact hs
theorem uniUp_good {l : List SpanV} {H : Hp} (hl : ∀ x ∈ l, Enc.good H x) : ∀ k, ∀ x ∈ uniUp l k, Enc.good H x
  | 0, x, hx => by simp [uniUp] at hx
  | k + 1, x, hx => by
    rcases Nat.lt_or_ge k l.length with h | h
    · rw [uniUp_next h] at hx
      exact uniteS_good (uniUp_good hl k) (hl _ (List.getElem_mem h)) x hx
    · have e : uniUp l (k + 1) = uniUp l k := by unfold uniUp; rw [List.take_of_length_le (by omega), List.take_of_length_le h]
      rw [e] at hx
      exact uniUp_good hl k x hx
def rowOf (o : Option (Nat × Nat)) (n : Nat) : Value := match o with
  | none => .slice none 0 0
  | some p => .slice (some ⟨p.1, 0, none⟩) n p.2
set_option maxHeartbeats 4000000 in
theorem c_united (s : Slc SpanV) (hf : s.len ≤ 20000) {H : Hp} {w : World} (hs : Sat H w) (hg : s.Good H) : Calls Tryz.prog 173 #[s.v] w (RetF w H (fun p : Hp × Slc SpanV => p.2.els = uniteC s.els ∧ p.2.Good p.1) (fun p => p.2.v) (fun p => p.1)) := by
  have hlen := hg.len
  have hlim := hg.lim
  refine T.enter (vs := [s.v]) (H := H) Tryz.func173 rfl rfl rfl hs ?_
  repeat (any_goals (first | refine T.seq ?_ | refine T.region ?_ | refine TL.nil ?_ | refine N.next ?_ | refine T.block ?_ | (apply TL.val; rfl; rfl; (first | exact vpure | exact vread))))
  refine T.nilRow 134 2 ?_
  refine T.loop (G := Option (Nat × Nat) × Nat) (fun g => [(3, rowOf g.1 (uniUp s.els g.2).length), (7, s.v), (8, intV s.len), (9, intV g.2)]) (fun _ => H) (fun g => [.row (rowOf g.1 (uniUp s.els g.2).length) 134 2 (uniUp s.els g.2).length (encs (uniUp s.els g.2))]) (fun g => g.2 ≤ s.len ∧ (g.1 = none ↔ g.2 = 0)) (fun g => s.len - g.2) (none, 0) ⟨Nat.zero_le _, by simp⟩ (by (repeat (first | exact True.intro | refine ⟨rfl, ?_⟩ | refine Sub.int rfl (by omega) ?_))) rfl (by (repeat (first | exact List.Sublist.refl _ | exact List.nil_sublist _ | apply List.Sublist.cons_cons | apply List.Sublist.cons))) ?_
  rintro ⟨o, k⟩ ⟨hk, ho⟩
  simp only at hk ho ⊢
  by_cases hlt : k < s.len
  · have hkl : k < s.els.length := by omega
    have hrow := hg.row (k := k) hlt
    have hup := uniUp_next hkl
    have hcl := uniUp_len s.els k (by omega)
    obtain ⟨cs, hcs⟩ : ∃ cs, uniUp s.els k = cs := ⟨_, rfl⟩
    obtain ⟨x, hx⟩ : ∃ x, s.els[k]'hkl = x := ⟨_, rfl⟩
    rw [hcs, hx] at hup
    try rw [hx] at hrow
    rw [hcs] at hcl ⊢
    cases o with
    | none =>
      have hk0 := ho.1 rfl
      subst hk0
      have hcs0 : cs = [] := List.length_eq_zero_iff.1 (by omega)
      subst hcs0
      have hu : uniteS [] x = [x] := rfl
      rw [hu] at hup
      simp only [rowOf]
      repeat (any_goals (first | refine T.seq ?_ | refine T.region ?_ | (apply T.regionD wide; rfl) | refine TL.nil ?_ | refine N.next ?_ | refine N.inBlock ?_ | refine N.exit_same ?_ | refine N.exit_then ?_ | refine T.ret ?_ | refine T.skip ?_ | refine T.exit ?_ | refine T.block ?_ | (apply T.cond_false; rfl) | (apply T.test; rfl; (exact isx); intro _; rotate_left; intro _; rotate_right) | (apply GT.skip; rfl; rfl; rfl; decide +kernel) | (apply TL.val; rfl; rfl; (apply V.elem (j := 0); (iterate 6 rfl); omega; exact hg.at_ (by omega))) | (apply TL.val; rfl; rfl; (apply V.load_H_row; rfl; rfl; rfl; exact hrow; rfl)) | (apply TL.x; rfl; rfl; (apply X.alloc (d := 5); rfl; rfl; rfl); intro b5 _) | (apply TL.x; rfl; rfl; (apply X.storeTo 0 (enc x); (iterate 10 rfl)); intro _ _) | (apply TL.x; rfl; rfl; (apply X.buildSlice1 (d := 44); (iterate 8 rfl)); intro b44 _) | (apply TL.x; rfl; rfl; (apply X.append1 2; (iterate 9 rfl); exact List.Mem.head _; rfl; rfl; rfl; decide; decide); intro pa _) | (apply TL.val; rfl; rfl; (first | exact vpure | exact vread)) | (apply GT.pure; (iterate 4 rfl); (first | exact vpure); decide +kernel) | (apply GT.done; decide +kernel; apply N.ofQ)))
      all_goals (try (exfalso; omega))
      all_goals first
        | (refine N.round (some pa, 1) ⟨by show 1 ≤ _; omega, by simp⟩ (by show s.len - 1 < s.len - 0; omega) (by simp only [hup, rowOf]; (repeat (first | exact True.intro | refine ⟨rfl, ?_⟩ | refine Sub.int rfl (by omega) ?_))) rfl ?_
           simp only [hup, rowOf]
           (repeat (first | exact List.Sublist.refl _ | exact List.nil_sublist _ | apply List.Sublist.cons_cons | apply List.Sublist.cons)))
        | trace_state
    | some p =>
      have hkp : 0 < k := Nat.pos_of_ne_zero fun e => by have := ho.2 e; cases this
      have hcp := hcl.2 hkp
      have hcl := hcl.1
      obtain ⟨y, hy⟩ : ∃ y, cs[cs.length - 1]'(by omega) = y := ⟨_, rfl⟩
      have hla : cs.getLast? = some y := by rw [List.getLast?_eq_getElem?, List.getElem?_eq_getElem (by omega), hy]
      have hyy : cs[cs.length - 1]? = some y := by rw [List.getElem?_eq_getElem (by omega), hy]
      have hyt : (encs cs)[0 + (cs.length - 1) * 2 + 1]? = some (intV y.til) := by
        rw [show 0 + (cs.length - 1) * 2 + 1 = (cs.length - 1) * Enc.size SpanV + 1 by show _ = (cs.length - 1) * 2 + 1; omega]
        exact encs_get cs (cs.length - 1) 1 y _ hyy rfl
      simp only [rowOf]
      by_cases hle : x.frm ≤ y.til
      · have hu : uniteS cs x = cs.set (cs.length - 1) ⟨y.frm, if x.til > y.til then x.til else y.til⟩ := by unfold uniteS; rw [hla]; exact if_pos hle
        rw [hu] at hup
        obtain ⟨M, hM⟩ : ∃ M, (if x.til > y.til then x.til else y.til) = M := ⟨_, rfl⟩
        rw [hM] at hup
        have hl2 : (cs.set (cs.length - 1) (⟨y.frm, M⟩ : SpanV)).length = cs.length := List.length_set
        repeat (any_goals (first | refine T.seq ?_ | refine T.region ?_ | (apply T.regionD wide; rfl) | refine TL.nil ?_ | refine N.next ?_ | refine N.inBlock ?_ | refine N.exit_same ?_ | refine N.exit_then ?_ | refine T.ret ?_ | refine T.skip ?_ | refine T.exit ?_ | refine T.block ?_ | (apply T.cond_false; rfl) | (apply T.test; rfl; (exact isx); intro _; rotate_left; intro _; rotate_right) | (apply GT.skip; rfl; rfl; rfl; decide +kernel) | (apply TL.val; rfl; rfl; (apply V.elem (j := k); (iterate 6 rfl); omega; exact hg.at_ (by omega))) | (apply TL.val; rfl; rfl; (apply V.load_H_row; rfl; rfl; rfl; exact hrow; rfl)) | (apply TL.x; rfl; rfl; (apply X.alloc (d := 5); rfl; rfl; rfl); intro b5 _) | (apply TL.x; rfl; rfl; (apply X.storeTo 0 (enc x); (iterate 10 rfl)); intro _ _) | (apply GT.pureAt 8; (iterate 4 rfl); (apply V.elem (j := cs.length - 1); (iterate 5 rfl); omega; omega; rfl); decide +kernel) | (apply GT.readAt 10; (iterate 4 rfl); (apply V.load_own; rfl; rfl; rfl; exact List.Mem.tail _ (List.Mem.head _); exact hyt); decide +kernel) | (apply GT.pure; (iterate 4 rfl); (apply V.elem (j := cs.length - 1); (iterate 5 rfl); omega; omega; rfl); decide +kernel) | (apply GT.read; (iterate 4 rfl); (apply V.load_own; rfl; rfl; rfl; exact List.Mem.tail _ (List.Mem.head _); exact hyt); decide +kernel) | (apply GT.pure; (iterate 4 rfl); (apply V.max (M := M); exact hM; rfl; rfl); decide +kernel) | (apply GS.eff; rfl; decide +kernel; rfl; (exact X.storeRowE 1 (vs := [intV M]) (ys := encs (cs.set (cs.length - 1) ⟨y.frm, M⟩)) rfl rfl rfl rfl rfl rfl rfl (by show 0 + (cs.length - 1) * 2 + 1 + 1 ≤ cs.length * 2; omega) (encs_put (j := 1) (y := ⟨y.frm, M⟩) hyy (by show 1 + 1 ≤ 2; omega) rfl (by show 0 + (cs.length - 1) * 2 + 1 = (cs.length - 1) * 2 + 1; omega))); intro _ _) | (apply TL.val; rfl; rfl; (first | exact vpure | exact vread)) | (apply GT.pure; (iterate 4 rfl); (first | exact vpure); decide +kernel) | (apply GT.read; (iterate 4 rfl); (first | exact vpure | exact vread); decide +kernel) | (apply GT.done; decide +kernel; apply N.ofQ) | (apply GT.adv; rfl) | (apply TL.x; rfl; rfl; (first | exact xgrow | exact xput); intro _ _) | (apply GT.guard; (iterate 4 rfl); (exact isx); intro _; rotate_left; intro _; rotate_right) | (apply GT.fork1; decide +kernel)))
        all_goals (try (exfalso; omega))
        all_goals first
          | (refine N.round (some p, k + 1) ⟨by show k + 1 ≤ _; omega, by simp⟩ (by show s.len - (k + 1) < s.len - k; omega) (by simp only [hup, hl2, rowOf]; (repeat (first | exact True.intro | refine ⟨rfl, ?_⟩ | refine Sub.int rfl (by omega) ?_))) rfl ?_
             simp only [hup, hl2, rowOf]
             (repeat (first | exact List.Sublist.refl _ | exact List.nil_sublist _ | apply List.Sublist.cons_cons | apply List.Sublist.cons)))
          | trace_state
      · have hu : uniteS cs x = cs ++ [x] := by unfold uniteS; rw [hla]; exact if_neg hle
        rw [hu] at hup
        repeat (any_goals (first | refine T.seq ?_ | refine T.region ?_ | (apply T.regionD wide; rfl) | refine TL.nil ?_ | refine N.next ?_ | refine N.inBlock ?_ | refine N.exit_same ?_ | refine N.exit_then ?_ | refine T.ret ?_ | refine T.skip ?_ | refine T.exit ?_ | refine T.block ?_ | (apply T.cond_false; rfl) | (apply T.test; rfl; (exact isx); intro _; rotate_left; intro _; rotate_right) | (apply GT.skip; rfl; rfl; rfl; decide +kernel) | (apply TL.val; rfl; rfl; (apply V.elem (j := k); (iterate 6 rfl); omega; exact hg.at_ (by omega))) | (apply TL.val; rfl; rfl; (apply V.load_H_row; rfl; rfl; rfl; exact hrow; rfl)) | (apply TL.x; rfl; rfl; (apply X.alloc (d := 5); rfl; rfl; rfl); intro b5 _) | (apply TL.x; rfl; rfl; (apply X.storeTo 0 (enc x); (iterate 10 rfl)); intro _ _) | (apply GT.pureAt 8; (iterate 4 rfl); (apply V.elem (j := cs.length - 1); (iterate 5 rfl); omega; omega; rfl); decide +kernel) | (apply GT.readAt 10; (iterate 4 rfl); (apply V.load_own; rfl; rfl; rfl; exact List.Mem.tail _ (List.Mem.head _); exact hyt); decide +kernel) | (apply TL.x; rfl; rfl; (apply X.buildSlice1 (d := 44); (iterate 8 rfl)); intro b44 _) | (apply TL.x; rfl; rfl; (apply X.append1 2; (iterate 9 rfl); exact List.Mem.head _; rfl; rfl; rfl; (refine Nat.le_trans (Nat.mul_le_mul_right _ (show _ ≤ 20001 by omega)) ?_; decide); omega); intro pa _) | (apply TL.val; rfl; rfl; (first | exact vpure | exact vread)) | (apply GT.pure; (iterate 4 rfl); (first | exact vpure); decide +kernel) | (apply GT.read; (iterate 4 rfl); (first | exact vpure | exact vread); decide +kernel) | (apply GT.done; decide +kernel; apply N.ofQ) | (apply GT.adv; rfl) | (apply GT.pureAt 9; (iterate 4 rfl); (first | exact vpure); decide +kernel) | (apply GT.readAt 10; (iterate 4 rfl); (first | exact vpure | exact vread); decide +kernel) | (apply GT.guard; (iterate 4 rfl); (exact isx); intro _; rotate_left; intro _; rotate_right) | (apply GT.fork1; decide +kernel)))
        all_goals (try (exfalso; omega))
        all_goals first
          | (refine N.round (some pa, k + 1) ⟨by show k + 1 ≤ _; omega, by simp⟩ (by show s.len - (k + 1) < s.len - k; omega) (by simp only [hup, rowOf, List.length_append, List.length_cons, List.length_nil, Nat.zero_add]; (repeat (first | exact True.intro | refine ⟨rfl, ?_⟩ | refine Sub.int rfl (by omega) ?_))) rfl ?_
             simp only [hup, rowOf, List.length_append, List.length_cons, List.length_nil, Nat.zero_add, encs_snoc]
             (repeat (first | exact List.Sublist.refl _ | exact List.nil_sublist _ | apply List.Sublist.cons_cons | apply List.Sublist.cons)))
          | trace_state
  · have hke : k = s.len := by omega
    subst hke
    have hal : uniUp s.els s.len = uniteC s.els := by unfold uniUp uniteC; rw [List.take_of_length_le (by omega)]
    have hgo := uniUp_good (H := H) hg.els s.len
    rw [hal] at hgo ⊢
    apply T.frzRow 0 (els := uniteC s.els); rfl; rfl; rfl
    · exact hgo
    intro H3 sl e1 e2 e3 hle3
    rw [← e1]
    repeat (any_goals (first | refine T.seq ?_ | refine T.region ?_ | refine TL.nil ?_ | refine N.next ?_ | refine N.exit_same ?_ | refine N.exit_then ?_ | refine T.ret ?_ | refine T.skip ?_ | refine T.exit ?_ | refine T.block ?_ | (apply T.test; rfl; (exact isx); intro _; rotate_left; intro _; rotate_right) | (apply TL.val; rfl; rfl; (first | exact vpure | exact vread))))
    all_goals (try (exfalso; omega))
    exact N.ret1 rfl (by (exact rvx)) fun w hst => ⟨(H3, sl), ⟨e2, e3⟩, rfl, hst.fresh⟩
end Go.Proofs.YtepljgpikfeklaaGreatDoor
