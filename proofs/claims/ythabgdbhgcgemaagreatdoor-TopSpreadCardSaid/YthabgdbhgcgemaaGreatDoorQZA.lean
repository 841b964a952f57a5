import Derived.Test.YthabgdbhgcgemaaGreatDoorQNA
import Derived.Test.YthabgdbhgcgemaaGreatDoorQDataH
import Derived.Test.YthabgdbhgcgemaaGreatDoorQTMap
namespace Go.Proofs.YthabgdbhgcgemaaGreatDoor
set_option linter.unusedVariables false
set_option linter.unusedSimpArgs false
open Go Go.RowKit
open Enc (enc)
set_option maxRecDepth 20000
def Tells (w : World) (φ : Prop) : Ending → World → Prop := fun e w' => ∃ b : Bool, (b = true → φ) ∧ e = .returned (.bool b) ∧ Below w.heap.size w w'
section
variable {P : Program} {w0 : World} {H0 H : Hp} {L : List Loc} {env : List (Nat × Value)} {m : Nat} {ro : Option Nat} {fn : Func} {r : ResultVar} {φ : Prop}
theorem N.tellF (hr : fn.results = #[r]) (h1 : RV P ⟨m, [], ro⟩ w0 H0 env H L r (.bool false)) : N ⟨m, [], ro⟩ w0 H0 (bodyPost P fn (Tells w0 φ)) .ret env H L :=
  N.ret1 hr h1 fun _ hs => ⟨false, (fun h => by cases h), rfl, hs.below⟩
theorem N.tellT (hr : fn.results = #[r]) (h1 : RV P ⟨m, [], ro⟩ w0 H0 env H L r (.bool true)) (h : φ) : N ⟨m, [], ro⟩ w0 H0 (bodyPost P fn (Tells w0 φ)) .ret env H L :=
  N.ret1 hr h1 fun _ hs => ⟨true, fun _ => h, rfl, hs.below⟩
theorem N.tell {b : Bool} (hr : fn.results = #[r]) (h1 : RV P ⟨m, [], ro⟩ w0 H0 env H L r (.bool b)) (h : b = true → φ) : N ⟨m, [], ro⟩ w0 H0 (bodyPost P fn (Tells w0 φ)) .ret env H L :=
  N.ret1 hr h1 fun _ hs => ⟨b, h, rfl, hs.below⟩
end
theorem lexL_drop {a b : List Bytes} : ∀ {k : Nat}, k ≤ a.length → k ≤ b.length → a.take k = b.take k → lexL a b = lexL (a.drop k) (b.drop k)
  | 0, _, _, _ => rfl
  | k + 1, h1, h2, h => by
    cases a with
    | nil => simp at h1
    | cons x a =>
      cases b with
      | nil => simp at h2
      | cons y b =>
        simp only [List.take_succ_cons, List.cons.injEq] at h
        obtain ⟨rfl, h⟩ := h
        simp only [List.drop_succ_cons, lexL, cmpS_self, if_true]
        exact lexL_drop (by simpa using h1) (by simpa using h2) h
theorem lexL_at {a b : List Bytes} {k : Nat} (ha : k < a.length) (hb : k < b.length) (h : a.take k = b.take k) (hne : a[k] ≠ b[k]) : lexL a b = cmpS a[k] b[k] := by
  rw [lexL_drop (by omega) (by omega) h, List.drop_eq_getElem_cons ha, List.drop_eq_getElem_cons hb]
  simp only [lexL]
  rw [if_neg (fun e => hne (cmpS_zero.1 e))]
theorem take_next {a b : List Bytes} {k : Nat} (ha : k < a.length) (hb : k < b.length) (h : a.take k = b.take k) (he : a[k] = b[k]) : a.take (k + 1) = b.take (k + 1) := by
  rw [List.take_succ_eq_append_getElem ha, List.take_succ_eq_append_getElem hb, h, he]
theorem rev_at {A l : List Bytes} (h : l = A.reverse) {k : Nat} (hk : k < A.length) {j : Nat} (hj : j + k + 1 = A.length) (hl : j < l.length) : l[j] = A[k] := by
  subst h
  rw [List.getElem_reverse]
  congr 1
  omega
theorem lexL_end {a b : List Bytes} {k : Nat} (ha : k ≤ a.length) (hb : k ≤ b.length) (h : a.take k = b.take k) (he : ¬ (k < a.length ∧ k < b.length)) : lexL a b = if a.length < b.length then -1 else if b.length < a.length then 1 else 0 := by
  rw [lexL_drop ha hb h]
  by_cases h1 : k = a.length
  · subst h1
    rw [List.drop_length]
    cases hd : b.drop a.length with
    | nil =>
      rw [List.drop_eq_nil_iff] at hd
      rw [if_neg (by omega), if_neg (by omega)]; rfl
    | cons y r =>
      have : a.length < b.length := by
        rcases Nat.lt_or_ge a.length b.length with h2 | h2
        · exact h2
        · rw [List.drop_eq_nil_iff.2 h2] at hd; cases hd
      rw [if_pos this]; rfl
  · have h2 : k = b.length := by omega
    subst h2
    rw [List.drop_length]
    cases hd : a.drop b.length with
    | nil => rw [List.drop_eq_nil_iff] at hd; omega
    | cons y r =>
      rw [if_neg (by omega), if_pos (by omega)]; rfl
theorem labs_count (l : Bytes) : (labs l).length ≤ l.length + 1 := by
  unfold labs
  split
  · simp
  · rw [List.length_reverse]; exact splitDots_count l
set_option maxHeartbeats 2000000 in
theorem c_Order01 (a b : Bytes) (H : Hp) (w : World) (hs : Sat H w) (ha : a.length ≤ 1000000) (hb : b.length ≤ 1000000) : Calls Tryz.prog 151 #[strV a, strV b] w (Ret w (intV (ordN a b))) := by
  refine T.enter (vs := [strV a, strV b]) (H := H) Tryz.func151 rfl rfl rfl hs ?_
  repeat (any_goals (first | refine T.seq ?_ | refine T.region ?_ | refine TL.nil ?_ | refine N.next ?_ | refine T.block ?_ | (apply TL.x; rfl; rfl; (apply X.callFE (f := 143) [strV a] Tryz.call143; rfl; rfl; rfl; exact (fun _ hs => c_Parts _ _ _ hs.sat ha)); intro p hp) | (apply TL.x; rfl; rfl; (apply X.callFE (f := 143) [strV b] Tryz.call143; rfl; rfl; rfl; exact (fun _ hs => c_Parts _ _ _ hs.sat hb)); intro q hq) | (apply TL.val; rfl; rfl; (first | exact vpure | exact vread))))
  obtain ⟨⟨hpe, hpg⟩, hple⟩ := hp
  obtain ⟨⟨hqe, hqg⟩, hqle⟩ := hq
  have hpg := hpg.mono hqle
  obtain ⟨A, hA⟩ : ∃ A, labs a = A := ⟨_, rfl⟩
  obtain ⟨B, hB⟩ : ∃ B, labs b = B := ⟨_, rfl⟩
  have hpA : p.2.els = A.reverse := by rw [hpe, labs_rev, hA]
  have hqB : q.2.els = B.reverse := by rw [hqe, labs_rev, hB]
  have hpl : p.2.len = A.length := by rw [← hpg.len, hpA, List.length_reverse]
  have hql : q.2.len = B.length := by rw [← hqg.len, hqB, List.length_reverse]
  have hplim := hpg.lim
  have hqlim := hqg.lim
  have hAl : A.length ≤ a.length + 1 := hA ▸ labs_count a
  have hord : ordN a b = lexL A B := by unfold ordN; rw [hA, hB]
  rw [hord]
  refine T.loop (G := Nat) (fun k => [(5, p.2.v), (6, q.2.v), (7, intV ((k : Int) + 1))]) (fun _ => q.1) (fun _ => []) (fun k => k ≤ A.length ∧ k ≤ B.length ∧ A.take k = B.take k) (fun k => A.length - k) 0 ⟨Nat.zero_le _, Nat.zero_le _, rfl⟩ (by (repeat (first | exact True.intro | refine ⟨rfl, ?_⟩ | refine Sub.int rfl (by omega) ?_))) rfl (by (first | exact List.Sublist.refl _ | exact List.nil_sublist _ | exact List.Sublist.cons _ (List.Sublist.refl _) | exact List.Sublist.cons _ (List.Sublist.cons _ (List.Sublist.refl _)))) ?_
  rintro k ⟨hk1, hk2, hkt⟩
  by_cases hlt : k < A.length ∧ k < B.length
  · obtain ⟨hl1, hl2⟩ := hlt
    have hx0 : p.2.len - (k + 1) < p.2.els.length := by rw [hpg.len]; omega
    have hy0 : q.2.len - (k + 1) < q.2.els.length := by rw [hqg.len]; omega
    have hxe : p.2.els[p.2.len - (k + 1)] = A[k] := rev_at hpA hl1 (by omega) hx0
    have hye : q.2.els[q.2.len - (k + 1)] = B[k] := rev_at hqB hl2 (by omega) hy0
    have hxc := hpg.cell (k := p.2.len - (k + 1)) (j := 0) (by omega) (v := strV A[k]) (by rw [hxe]; rfl)
    have hyc := hqg.cell (k := q.2.len - (k + 1)) (j := 0) (by omega) (v := strV B[k]) (by rw [hye]; rfl)
    repeat (any_goals (first | refine T.seq ?_ | refine T.region ?_ | refine TL.nil ?_ | refine N.next ?_ | refine N.inBlock ?_ | refine N.exit_same ?_ | refine N.exit_then ?_ | refine N.ret_then ?_ | refine N.ret_block ?_ | refine T.ret ?_ | refine T.skip ?_ | refine T.exit ?_ | refine T.block ?_ | (apply T.cond_false; rfl) | (apply T.test; rfl; (exact isx); intro _; rotate_left; intro _; rotate_right) | (apply TL.skip; rfl; rfl; rfl) | (apply TL.val; rfl; rfl; (apply V.elem (j := p.2.len - (k + 1)); (iterate 5 rfl); omega; omega; exact hpg.at_ (by omega))) | (apply TL.val; rfl; rfl; (apply V.elem (j := q.2.len - (k + 1)); (iterate 5 rfl); omega; omega; exact hqg.at_ (by omega))) | (apply TL.val; rfl; rfl; (apply V.load_H; rfl; rfl; rfl; first | exact hxc | exact hyc)) | (apply TL.val; rfl; rfl; (first | exact vpure | exact vread)) | (apply TL.guard; rfl; rfl; rfl; (exact isx); intro _; rotate_left; intro _; rotate_right)))
    all_goals (try (exfalso; omega))
    · refine N.ret_int rfl (by (exact rvx)) ?_
      have hl : Op.bytesLess A[k] B[k] = true := by assumption
      rw [lexL_at hl1 hl2 hkt (fun e => by rw [e, bytesLess_self] at hl; cases hl)]
      unfold cmpS
      rw [if_pos hl]
    · refine N.ret_int rfl (by (exact rvx)) ?_
      have hl : Op.bytesLess A[k] B[k] = false := by assumption
      have hg : (Op.bytesLess A[k] B[k] || decide (A[k] = B[k])) = false := by assumption
      rw [hl, Bool.false_or, decide_eq_false_iff_not] at hg
      rw [lexL_at hl1 hl2 hkt hg]
      unfold cmpS
      rw [if_neg (by rw [hl]; decide), if_neg hg]
    · have hl : Op.bytesLess A[k] B[k] = false := by assumption
      have hg : (Op.bytesLess A[k] B[k] || decide (A[k] = B[k])) = true := by assumption
      rw [hl, Bool.false_or, decide_eq_true_iff] at hg
      refine N.round (k + 1) ⟨by omega, by omega, take_next hl1 hl2 hkt hg⟩ (by show A.length - (k + 1) < A.length - k; omega) (by (repeat (first | exact True.intro | refine ⟨rfl, ?_⟩ | refine Sub.int rfl (by omega) ?_))) rfl (by (first | exact List.Sublist.refl _ | exact List.nil_sublist _ | exact List.Sublist.cons _ (List.Sublist.refl _) | exact List.Sublist.cons _ (List.Sublist.cons _ (List.Sublist.refl _))))
  · have hend := lexL_end hk1 hk2 hkt hlt
    repeat (any_goals (first | refine T.seq ?_ | refine T.region ?_ | refine TL.nil ?_ | refine N.next ?_ | refine N.inBlock ?_ | refine N.exit_same ?_ | refine N.exit_then ?_ | refine N.ret_then ?_ | refine N.ret_block ?_ | refine T.ret ?_ | refine T.skip ?_ | refine T.exit ?_ | refine T.block ?_ | (apply T.cond_false; rfl) | (apply T.test; rfl; (exact isx); intro _; rotate_left; intro _; rotate_right) | (apply TL.skip; rfl; rfl; rfl) | (apply TL.val; rfl; rfl; (first | exact vpure | exact vread)) | (apply TL.guard; rfl; rfl; rfl; (exact isx); intro _; rotate_left; intro _; rotate_right)))
    all_goals (try (exfalso; omega))
    all_goals (refine N.ret_int rfl (by (exact rvx)) ?_)
    all_goals rw [hend]
    all_goals first
      | rw [if_pos (by omega)]
      | rw [if_neg (by omega), if_pos (by omega)]
      | rw [if_neg (by omega), if_neg (by omega)]
theorem c_Compare01 (a b : Bytes) (ha : nameOK a = true) (hb : nameOK b = true) {H : Hp} {w : World} (hs : Sat H w) : Calls Tryz.prog 149 #[strV a, strV b] w (Ret w (.tuple #[intV (ordN a b), intV 0])) := by
  have hal := name_len60 ha
  have hbl := name_len60 hb
  refine T.enter (vs := [strV a, strV b]) (H := H) Tryz.func149 rfl rfl rfl hs ?_
  repeat (any_goals (first | refine T.seq ?_ | refine T.region ?_ | refine TL.nil ?_ | refine N.next ?_ | refine T.ret ?_ | refine T.skip ?_ | (apply T.cond_false; rfl) | (apply TL.callE (f := 118) [strV a] Tryz.call118; (iterate 4 rfl); (exact fun _ hs => ha ▸ c_nameValid01 a _ _ hs.sat (by show _ ≤ 9223372036854775807; omega))) | (apply TL.callE (f := 118) [strV b] Tryz.call118; (iterate 4 rfl); (exact fun _ hs => hb ▸ c_nameValid01 b _ _ hs.sat (by show _ ≤ 9223372036854775807; omega))) | (apply TL.callE (f := 151) [strV a, strV b] Tryz.call151; (iterate 4 rfl); (exact fun _ hs => c_Order01 a b _ _ hs.sat (by omega) (by omega))) | (apply TL.val; rfl; rfl; (first | exact vpure | exact vread))))
  all_goals (try contradiction)
  exact N.ret_two rfl (by (exact rvx)) (by (exact rvx)) rfl
theorem c_Order02 (x y : RSet) (hx : nameOK x.name = true) (hy : nameOK y.name = true) {H : Hp} {w : World} (hs : Sat H w) : Calls Tryz.prog 122 #[.agg (enc x).toArray, .agg (enc y).toArray] w (Ret w (intV (ordSet x.c y.c))) := by
  refine T.enter (vs := [.agg (enc x).toArray, .agg (enc y).toArray]) (H := H) Tryz.func122 rfl rfl rfl hs ?_
  obtain ⟨o, ho⟩ : ∃ o, ordN x.name y.name = o := ⟨_, rfl⟩
  have hord : ordSet x.c y.c = if o = 0 then cmpI x.typ y.typ else o := by unfold ordSet; rw [show x.c.name = x.name from rfl, show y.c.name = y.name from rfl, ho]; rfl
  rw [hord]
  repeat (any_goals (first | refine T.seq ?_ | refine T.region ?_ | refine TL.nil ?_ | refine N.next ?_ | refine N.ret_then ?_ | refine T.ret ?_ | refine T.skip ?_ | (apply T.test; rfl; (exact isx); intro _; rotate_left; intro _; rotate_right) | (apply TL.callE (f := 149) [strV x.name, strV y.name] Tryz.call149; (iterate 4 rfl); (exact fun _ hs => ho ▸ c_Compare01 x.name y.name hx hy hs.sat)) | (apply TL.val; rfl; rfl; (first | exact vpure | exact vread)) | (apply TL.x; rfl; rfl; (first | exact xgrow | exact xput); intro _ _)))
  all_goals (try (exfalso; omega))
  all_goals (refine N.ret_int rfl (by (exact rvx)) ?_)
  all_goals unfold cmpI
  all_goals first
    | rw [if_neg (by assumption)]
    | rw [if_pos (by assumption), if_pos (by assumption)]
    | rw [if_pos (by assumption), if_neg (by assumption), if_pos (by assumption)]
    | rw [if_pos (by assumption), if_neg (by assumption), if_neg (by assumption)]
def isAt (q : Question) (s : Signed) : Bool := decide (s.set.name = q.name) && decide (s.set.typ = q.typ)
theorem c_At06 (z : ZoneV) (q : Question) {H : Hp} {w : World} (hs : Sat H w) (hz : Enc.good H z) : Calls Tryz.prog 32 #[.agg (enc z).toArray, .agg (enc q).toArray] w (Ret w (intV (idxI (isAt q) z.sets.els))) := by
  have hg := hz.2
  have hlen := hg.len
  have hlim := hg.lim
  refine T.enter (vs := [.agg (enc z).toArray, .agg (enc q).toArray]) (H := H) Tryz.func32 rfl rfl rfl hs ?_
  repeat (any_goals (first | refine T.seq ?_ | refine T.region ?_ | refine TL.nil ?_ | refine N.next ?_ | refine T.block ?_ | (apply TL.x; rfl; rfl; (apply X.box (d := 2); rfl; rfl; rfl); intro b2 _) | (apply TL.x; rfl; rfl; (apply X.box (d := 3); rfl; rfl; rfl); intro b3 _) | (apply TL.val; rfl; rfl; (first | exact vpure | exact vread))))
  refine T.loop (G := Nat) (fun k => [(2, .pointer (some ⟨b2, 0, none⟩)), (3, .pointer (some ⟨b3, 0, none⟩)), (5, intV k)]) (fun _ => H) (fun _ => [.blk b3 91 (enc q), .blk b2 32 (enc z)]) (fun k => k ≤ z.sets.len ∧ ∀ j (hj : j < z.sets.els.length), j < k → isAt q z.sets.els[j] = false) (fun k => z.sets.len - k) 0 ⟨Nat.zero_le _, fun j _ h => by omega⟩ (by (repeat (first | exact True.intro | refine ⟨rfl, ?_⟩ | refine Sub.int rfl (by omega) ?_))) rfl (by (repeat (first | exact List.Sublist.refl _ | exact List.nil_sublist _ | apply List.Sublist.cons_cons | apply List.Sublist.cons))) ?_
  rintro k ⟨hk, hrel⟩
  by_cases hlt : k < z.sets.len
  · have hkl : k < z.sets.els.length := by omega
    repeat (any_goals (first | refine T.seq ?_ | refine T.region ?_ | (apply T.regionD wide; rfl) | refine TL.nil ?_ | refine N.next ?_ | refine N.inBlock ?_ | refine N.exit_same ?_ | refine N.exit_then ?_ | refine N.ret_then ?_ | refine N.ret_block ?_ | refine T.ret ?_ | refine T.skip ?_ | refine T.exit ?_ | refine T.block ?_ | (apply T.cond_false; rfl) | (apply T.test; rfl; (exact isx); intro _; rotate_left; intro _; rotate_right) | (apply GT.skip; rfl; rfl; rfl; decide +kernel) | (apply TL.val; rfl; rfl; (first | exact vpure | exact vread)) | (apply GT.pure; (iterate 4 rfl); (first | exact vpure); decide +kernel) | (apply GT.read; (iterate 4 rfl); (first | exact vpure | exact vread); decide +kernel) | (apply GT.done; decide +kernel; apply N.ofQ) | (apply GT.guard; (iterate 4 rfl); (exact isx); intro _; rotate_left; intro _; rotate_right)))
    all_goals (try (exfalso; omega))
    · refine N.ret_int rfl (by (exact rvx)) ?_
      exact (idxI_at hkl (by unfold isAt; rw [Bool.and_eq_true]; exact ⟨decide_eq_true (by assumption), decide_eq_true (by assumption)⟩) (fun j hj => hrel j (by omega) hj)).symm
    all_goals
      refine N.round (k + 1) ⟨by omega, fun j hj hjk => ?_⟩ (by show z.sets.len - (k + 1) < z.sets.len - k; omega) (by (repeat (first | exact True.intro | refine ⟨rfl, ?_⟩ | refine Sub.int rfl (by omega) ?_))) rfl (by (repeat (first | exact List.Sublist.refl _ | exact List.nil_sublist _ | apply List.Sublist.cons_cons | apply List.Sublist.cons)))
      by_cases e : j = k
      · subst e
        unfold isAt
        first
          | rw [decide_eq_false (by assumption), Bool.false_and]
          | rw [show decide (_ = q.typ) = false from decide_eq_false (by assumption), Bool.and_false]
      · exact hrel j hj (by omega)
  · repeat (any_goals (first | refine T.seq ?_ | refine T.region ?_ | (apply T.regionD wide; rfl) | refine TL.nil ?_ | refine N.next ?_ | refine N.inBlock ?_ | refine N.exit_same ?_ | refine N.exit_then ?_ | refine N.ret_then ?_ | refine N.ret_block ?_ | refine T.ret ?_ | refine T.skip ?_ | refine T.exit ?_ | refine T.block ?_ | (apply T.cond_false; rfl) | (apply T.test; rfl; (exact isx); intro _; rotate_left; intro _; rotate_right) | (apply GT.skip; rfl; rfl; rfl; decide +kernel) | (apply TL.val; rfl; rfl; (first | exact vpure | exact vread)) | (apply GT.pure; (iterate 4 rfl); (first | exact vpure); decide +kernel) | (apply GT.read; (iterate 4 rfl); (first | exact vpure | exact vread); decide +kernel) | (apply GT.done; decide +kernel; apply N.ofQ) | (apply GT.guard; (iterate 4 rfl); (exact isx); intro _; rotate_left; intro _; rotate_right)))
    all_goals (try (exfalso; omega))
    refine N.ret_int rfl (by (exact rvx)) ?_
    exact (idxI_none fun j hj => hrel j hj (by omega)).symm
theorem c_Placed (t : Int) (b : Bool) {H : Hp} {w : World} (hs : Sat H w) : Calls Tryz.prog 123 #[intV t, .bool b] w (Ret w (.bool (placedOK t b))) := by
  refine T.enter (vs := [intV t, .bool b]) (H := H) Tryz.func123 rfl rfl rfl hs ?_
  unfold placedOK
  cases b <;> (repeat (any_goals (first | refine T.seq ?_ | refine T.region ?_ | refine TL.nil ?_ | refine N.next ?_ | refine N.ret_then ?_ | refine T.ret ?_ | refine T.skip ?_ | (apply T.cond_true; rfl) | (apply T.cond_false; rfl) | (apply TL.skip; rfl; rfl; rfl) | (apply TL.val; rfl; rfl; (first | exact vpure | exact vread)) | (apply TL.guard; rfl; rfl; rfl; (exact isx); intro _; rotate_left; intro _; rotate_right))))
  all_goals (try contradiction)
  all_goals (refine N.ret_bool rfl (by (exact rvx)) ?_)
  all_goals simp [*]
end Go.Proofs.YthabgdbhgcgemaaGreatDoor
