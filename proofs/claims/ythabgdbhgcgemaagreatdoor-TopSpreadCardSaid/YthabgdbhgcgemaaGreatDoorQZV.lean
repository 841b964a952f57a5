import Derived.Test.YthabgdbhgcgemaaGreatDoorQBG
import Derived.Test.YthabgdbhgcgemaaGreatDoorQTMap
import Derived.Test.YthabgdbhgcgemaaGreatDoorQTac
import Derived.Lib.AppendZeros
import Derived.DefersIn
import Derived.Recover
import Derived.Laws.IdiomStrings
import Derived.Test.YthabgdbhgcgemaaGreatDoorQZA
import Derived.Test.YthabgdbhgcgemaaGreatDoorQNA
import Derived.Test.YthabgdbhgcgemaaGreatDoorQEngC
import Derived.Test.YthabgdbhgcgemaaGreatDoorQWA
import Derived.Test.YthabgdbhgcgemaaGreatDoorQDataH
namespace Go.Proofs.YthabgdbhgcgemaaGreatDoor
set_option linter.unusedVariables false
set_option linter.unusedSimpArgs false
open Go Go.RowKit
open Enc (enc)
set_option maxRecDepth 20000
section
variable {P : Program} {n : FK} {w0 w w' : World} {H0 H : Hp} {Q : Exit → Act → World → Prop} {env : List (Nat × Value)} {L : List Loc} {ops rest : List Oper}
theorem X.callFV (u : Value) (cb : List Value) {G : Type} {φ : G → Prop} {v : G → Value} {H' : G → Hp} {d : Nat} {x : Operand} {args : Array Operand} {tys : Array TypeId} {ty : TypeId} {pos : String} {after : Array Edge} {g : Option (Nat × Bool)} {f : FuncId} (hn : Nat.blt d n.n = true)
    (hx : ev env x = some (.func (.func f) #[] cb.toArray)) (hargs : evs env args.toList = some [u])
    (hcall : ∀ (args : Array Value) (w : World), (callFunc f args).run P w = .ok (.enter f args) w)
    (hc : ∀ w, St w0 H0 H L w → Calls P f (u :: cb).toArray w (RetF w H φ v H')) :
    X P n w0 H0 env H L ⟨some d, .call { callee := .value x, args := args, argTypes := tys }, ty, pos, after, g⟩ true (fun g => φ g ∧ H.le (H' g)) (fun g => (d, v g) :: env) H' (fun _ => L) :=
  X.callF hn hx hargs hcall (fun w hs => by simpa using hc w hs)
theorem retO_F {α : Type} [Enc α] {w : World} {H : Hp} {e : TypeId} {φ : List α → Prop} {en : Ending} {w' : World} (h : RetO w H (fun p : Hp × Value × List α => φ p.2.2 ∧ ∀ y ∈ p.2.2, Enc.good p.1 y) (fun p => p.2.1) (fun p => p.1) (fun p => [.row p.2.1 e (Enc.size α) p.2.2.length (encs p.2.2)]) en w') :
    RetF w H (fun p : Hp × Slc α => φ p.2.els ∧ p.2.Good p.1) (fun p => p.2.v) (fun p => p.1) en w' := by
  obtain ⟨⟨H1, v, ys⟩, ⟨h1, h2⟩, rfl, hst⟩ := h
  obtain ⟨H2, s, e1, e2, e3, e4, e5⟩ := hst.freezeRow (els := ys) rfl rfl h2
  exact ⟨(H2, s), ⟨by rw [e2]; exact h1, e3⟩, congrArg Ending.returned e1.symm, e5.fresh⟩
end
set_option maxHeartbeats 4000000 in
theorem c_collectSS {γ : Type} (f : Signed → γ) (κ : Signed → γ) (tk : Signed → Bool) (s : Slc Signed) (g : FuncId) (cb : List Value) (eg : ∀ (args : Array Value) (w : World), (callFunc g args).run Tryz.prog w = .ok (.enter g args) w) (hb : s.len ≤ 20000) {H : Hp} {w : World} (hs : Sat H w) (hg : s.Good H)
    (hc : ∀ x ∈ s.els, ∀ (H' : Hp) (w : World), H.le H' → Sat H' w → Calls Tryz.prog g (sgV x :: cb).toArray w (RetF w H' (fun p : Hp × Signed => (tk x = true → κ p.2 = f x) ∧ Enc.good p.1 p.2) (fun p => .tuple #[.agg (enc p.2).toArray, .bool (tk x)]) (fun p => p.1))) :
    Calls Tryz.prog 106 #[s.v, .func (.func g) #[] cb.toArray] w (RetO w H (fun p : Hp × Value × List Signed => p.2.2.map κ = (s.els.filter tk).map f ∧ ∀ y ∈ p.2.2, Enc.good p.1 y) (fun p => p.2.1) (fun p => p.1) (fun p => [.row p.2.1 86 5 p.2.2.length (encs p.2.2)])) := by
  have hlen := hg.len
  have hlim := hg.lim
  refine T.enter (vs := [s.v, .func (.func g) #[] cb.toArray]) (H := H) Tryz.func106 rfl rfl rfl hs ?_
  repeat (any_goals (first | refine T.seq ?_ | refine T.region ?_ | refine TL.nil ?_ | refine N.next ?_ | refine T.block ?_ | (apply TL.val; rfl; rfl; (first | exact vpure | exact vread))))
  refine T.nilRow 86 5 ?_
  refine T.loop (G := Value × Nat × Hp × List Signed) (fun q => [(1, .func (.func g) #[] cb.toArray), (5, q.1), (10, s.v), (11, intV s.len), (12, intV q.2.1)]) (fun q => q.2.2.1) (fun q => [.row q.1 86 5 q.2.2.2.length (encs q.2.2.2)]) (fun q => q.2.1 ≤ s.len ∧ H.le q.2.2.1 ∧ q.2.2.2.map κ = ((s.els.take q.2.1).filter tk).map f ∧ (∀ y ∈ q.2.2.2, Enc.good q.2.2.1 y) ∧ q.2.2.2.length ≤ q.2.1) (fun q => s.len - q.2.1) (.slice none 0 0, 0, H, []) ⟨Nat.zero_le _, .refl _, rfl, fun y hy => (by cases hy), Nat.zero_le _⟩ (by (repeat (first | exact True.intro | refine ⟨rfl, ?_⟩ | refine Sub.int rfl (by omega) ?_))) rfl (by (repeat (first | exact List.Sublist.refl _ | exact List.nil_sublist _ | apply List.Sublist.cons_cons | apply List.Sublist.cons))) ?_
  rintro ⟨v, k, H1, ys⟩ ⟨hk, hle, hmap, hgood, hyl⟩
  simp only at hk hle hmap hgood hyl ⊢
  by_cases hlt : k < s.len
  · have hkl : k < s.els.length := by omega
    have hg1 := hg.mono hle
    have hrow := hg1.row (k := k) hlt
    have hc1 := hc _ (List.getElem_mem hkl)
    have hup : (s.els.take (k + 1)).filter tk = (s.els.take k).filter tk ++ if tk s.els[k] = true then [s.els[k]] else [] := by
      rw [List.take_succ_eq_append_getElem hkl, List.filter_append, List.filter_cons]
      split <;> rfl
    obtain ⟨x, hx⟩ : ∃ x, s.els[k]'hkl = x := ⟨_, rfl⟩
    rw [hx] at hc1 hup
    try rw [hx] at hrow
    cases htk : tk x with
    | true =>
      rw [htk, if_pos rfl] at hup
      simp only [htk, true_implies] at hc1
      repeat (any_goals (first | refine T.seq ?_ | refine T.region ?_ | refine TL.nil ?_ | refine N.next ?_ | refine N.inBlock ?_ | refine N.exit_same ?_ | refine N.exit_then ?_ | refine T.ret ?_ | refine T.skip ?_ | refine T.exit ?_ | refine T.block ?_ | (apply T.cond_true; rfl) | (apply T.test; rfl; (exact isx); intro _; rotate_left; intro _; rotate_right) | (apply TL.val; rfl; rfl; (apply V.elem (j := k); (iterate 6 rfl); omega; exact hg1.at_ (by omega))) | (apply TL.val; rfl; rfl; (apply V.load_H_row; rfl; rfl; rfl; exact hrow; rfl)) | (apply TL.x; rfl; rfl; (apply X.alloc (d := 7); rfl; rfl; rfl); intro b7 _) | (apply TL.x; rfl; rfl; (apply X.storeTo 0 (enc x); (iterate 10 rfl)); intro _ _) | (apply TL.x; rfl; rfl; (apply X.callFV (sgV x) cb; rfl; rfl; rfl; exact eg; exact fun _ hs => hc1 H1 _ hle hs.sat); rintro ⟨H2, y⟩ ⟨⟨hy1, hy2⟩, hle2⟩) | (apply TL.x; rfl; rfl; (apply X.alloc (d := 8); rfl; rfl; rfl); intro b8 _) | (apply TL.x; rfl; rfl; (apply X.storeTo 0 (enc y); (iterate 10 rfl)); intro _ _) | (apply TL.x; rfl; rfl; (apply X.buildSlice1 (d := 25); (iterate 8 rfl)); intro b25 _) | (apply TL.x; rfl; rfl; (apply X.append1 3; (iterate 9 rfl); exact List.Mem.head _; rfl; rfl; rfl; (refine Nat.le_trans (Nat.mul_le_mul_right _ (show _ ≤ 20001 by omega)) ?_; decide); omega); intro pa _) | (apply TL.val; rfl; rfl; (first | exact vpure | exact vread))))
      all_goals (try contradiction)
      all_goals (try (exfalso; omega))
      refine N.round (.slice (some ⟨pa.1, 0, none⟩) (ys.length + 1) pa.2, k + 1, H2, ys ++ [y]) ⟨by show k + 1 ≤ _; omega, hle.trans hle2, ?_, fun z hz => ?_, by simp only [List.length_append, List.length_cons, List.length_nil]; omega⟩ (by show s.len - (k + 1) < s.len - k; omega) (by (repeat (first | exact True.intro | refine ⟨rfl, ?_⟩ | refine Sub.int rfl (by omega) ?_))) rfl ?_
      · simp only [hup, List.map_append, hmap, List.map_cons, List.map_nil, hy1]
      · rcases List.mem_append.1 hz with hz | hz
        · exact Enc.mono hle2 (hgood z hz)
        · rw [List.mem_singleton.1 hz]; exact hy2
      · simp only [List.length_append, List.length_cons, List.length_nil, Nat.zero_add, encs_snoc]
        (repeat (first | exact List.Sublist.refl _ | exact List.nil_sublist _ | apply List.Sublist.cons_cons | apply List.Sublist.cons))
    | false =>
      rw [htk, if_neg (by decide), List.append_nil] at hup
      simp only [htk] at hc1
      repeat (any_goals (first | refine T.seq ?_ | refine T.region ?_ | refine TL.nil ?_ | refine N.next ?_ | refine N.inBlock ?_ | refine N.exit_same ?_ | refine N.exit_then ?_ | refine T.ret ?_ | refine T.skip ?_ | refine T.exit ?_ | refine T.block ?_ | (apply T.cond_false; rfl) | (apply T.test; rfl; (exact isx); intro _; rotate_left; intro _; rotate_right) | (apply TL.val; rfl; rfl; (apply V.elem (j := k); (iterate 6 rfl); omega; exact hg1.at_ (by omega))) | (apply TL.val; rfl; rfl; (apply V.load_H_row; rfl; rfl; rfl; exact hrow; rfl)) | (apply TL.x; rfl; rfl; (apply X.alloc (d := 7); rfl; rfl; rfl); intro b7 _) | (apply TL.x; rfl; rfl; (apply X.storeTo 0 (enc x); (iterate 10 rfl)); intro _ _) | (apply TL.x; rfl; rfl; (apply X.callFV (sgV x) cb; rfl; rfl; rfl; exact eg; exact fun _ hs => hc1 H1 _ hle hs.sat); rintro ⟨H2, y⟩ ⟨⟨_, hy2⟩, hle2⟩) | (apply TL.x; rfl; rfl; (apply X.alloc (d := 8); rfl; rfl; rfl); intro b8 _) | (apply TL.x; rfl; rfl; (apply X.storeTo 0 (enc y); (iterate 10 rfl)); intro _ _) | (apply TL.val; rfl; rfl; (first | exact vpure | exact vread))))
      all_goals (try contradiction)
      all_goals (try (exfalso; omega))
      refine N.round (v, k + 1, H2, ys) ⟨by show k + 1 ≤ _; omega, hle.trans hle2, by simp only [hup, hmap], fun z hz => Enc.mono hle2 (hgood z hz), by show ys.length ≤ k + 1; omega⟩ (by show s.len - (k + 1) < s.len - k; omega) (by (repeat (first | exact True.intro | refine ⟨rfl, ?_⟩ | refine Sub.int rfl (by omega) ?_))) rfl (by (repeat (first | exact List.Sublist.refl _ | exact List.nil_sublist _ | apply List.Sublist.cons_cons | apply List.Sublist.cons)))
  · have hke : k = s.len := by omega
    subst hke
    rw [List.take_of_length_le (by omega)] at hmap
    repeat (any_goals (first | refine T.seq ?_ | refine T.region ?_ | refine TL.nil ?_ | refine N.next ?_ | refine N.exit_same ?_ | refine N.exit_then ?_ | refine T.ret ?_ | refine T.skip ?_ | refine T.exit ?_ | refine T.block ?_ | (apply T.test; rfl; (exact isx); intro _; rotate_left; intro _; rotate_right) | (apply TL.val; rfl; rfl; (first | exact vpure | exact vread))))
    all_goals (try (exfalso; omega))
    exact N.ret1 rfl (by (exact rvx)) fun w hst => ⟨(H1, v, ys), ⟨hmap, hgood⟩, rfl, hst⟩
set_option maxHeartbeats 4000000 in
theorem c_collectSQ {γ : Type} (f : Signed → γ) (κ : Question → γ) (tk : Signed → Bool) (s : Slc Signed) (g : FuncId) (cb : List Value) (eg : ∀ (args : Array Value) (w : World), (callFunc g args).run Tryz.prog w = .ok (.enter g args) w) (hb : s.len ≤ 20000) {H : Hp} {w : World} (hs : Sat H w) (hg : s.Good H)
    (hc : ∀ x ∈ s.els, ∀ (H' : Hp) (w : World), H.le H' → Sat H' w → Calls Tryz.prog g (sgV x :: cb).toArray w (RetF w H' (fun p : Hp × Question => (tk x = true → κ p.2 = f x) ∧ Enc.good p.1 p.2) (fun p => .tuple #[.agg (enc p.2).toArray, .bool (tk x)]) (fun p => p.1))) :
    Calls Tryz.prog 103 #[s.v, .func (.func g) #[] cb.toArray] w (RetO w H (fun p : Hp × Value × List Question => p.2.2.map κ = (s.els.filter tk).map f ∧ ∀ y ∈ p.2.2, Enc.good p.1 y) (fun p => p.2.1) (fun p => p.1) (fun p => [.row p.2.1 91 2 p.2.2.length (encs p.2.2)])) := by
  have hlen := hg.len
  have hlim := hg.lim
  refine T.enter (vs := [s.v, .func (.func g) #[] cb.toArray]) (H := H) Tryz.func103 rfl rfl rfl hs ?_
  repeat (any_goals (first | refine T.seq ?_ | refine T.region ?_ | refine TL.nil ?_ | refine N.next ?_ | refine T.block ?_ | (apply TL.val; rfl; rfl; (first | exact vpure | exact vread))))
  refine T.nilRow 91 2 ?_
  refine T.loop (G := Value × Nat × Hp × List Question) (fun q => [(1, .func (.func g) #[] cb.toArray), (5, q.1), (10, s.v), (11, intV s.len), (12, intV q.2.1)]) (fun q => q.2.2.1) (fun q => [.row q.1 91 2 q.2.2.2.length (encs q.2.2.2)]) (fun q => q.2.1 ≤ s.len ∧ H.le q.2.2.1 ∧ q.2.2.2.map κ = ((s.els.take q.2.1).filter tk).map f ∧ (∀ y ∈ q.2.2.2, Enc.good q.2.2.1 y) ∧ q.2.2.2.length ≤ q.2.1) (fun q => s.len - q.2.1) (.slice none 0 0, 0, H, []) ⟨Nat.zero_le _, .refl _, rfl, fun y hy => (by cases hy), Nat.zero_le _⟩ (by (repeat (first | exact True.intro | refine ⟨rfl, ?_⟩ | refine Sub.int rfl (by omega) ?_))) rfl (by (repeat (first | exact List.Sublist.refl _ | exact List.nil_sublist _ | apply List.Sublist.cons_cons | apply List.Sublist.cons))) ?_
  rintro ⟨v, k, H1, ys⟩ ⟨hk, hle, hmap, hgood, hyl⟩
  simp only at hk hle hmap hgood hyl ⊢
  by_cases hlt : k < s.len
  · have hkl : k < s.els.length := by omega
    have hg1 := hg.mono hle
    have hrow := hg1.row (k := k) hlt
    have hc1 := hc _ (List.getElem_mem hkl)
    have hup : (s.els.take (k + 1)).filter tk = (s.els.take k).filter tk ++ if tk s.els[k] = true then [s.els[k]] else [] := by
      rw [List.take_succ_eq_append_getElem hkl, List.filter_append, List.filter_cons]
      split <;> rfl
    obtain ⟨x, hx⟩ : ∃ x, s.els[k]'hkl = x := ⟨_, rfl⟩
    rw [hx] at hc1 hup
    try rw [hx] at hrow
    cases htk : tk x with
    | true =>
      rw [htk, if_pos rfl] at hup
      simp only [htk, true_implies] at hc1
      repeat (any_goals (first | refine T.seq ?_ | refine T.region ?_ | refine TL.nil ?_ | refine N.next ?_ | refine N.inBlock ?_ | refine N.exit_same ?_ | refine N.exit_then ?_ | refine T.ret ?_ | refine T.skip ?_ | refine T.exit ?_ | refine T.block ?_ | (apply T.cond_true; rfl) | (apply T.test; rfl; (exact isx); intro _; rotate_left; intro _; rotate_right) | (apply TL.val; rfl; rfl; (apply V.elem (j := k); (iterate 6 rfl); omega; exact hg1.at_ (by omega))) | (apply TL.val; rfl; rfl; (apply V.load_H_row; rfl; rfl; rfl; exact hrow; rfl)) | (apply TL.x; rfl; rfl; (apply X.alloc (d := 7); rfl; rfl; rfl); intro b7 _) | (apply TL.x; rfl; rfl; (apply X.storeTo 0 (enc x); (iterate 10 rfl)); intro _ _) | (apply TL.x; rfl; rfl; (apply X.callFV (sgV x) cb; rfl; rfl; rfl; exact eg; exact fun _ hs => hc1 H1 _ hle hs.sat); rintro ⟨H2, y⟩ ⟨⟨hy1, hy2⟩, hle2⟩) | (apply TL.x; rfl; rfl; (apply X.alloc (d := 8); rfl; rfl; rfl); intro b8 _) | (apply TL.x; rfl; rfl; (apply X.storeTo 0 (enc y); (iterate 10 rfl)); intro _ _) | (apply TL.x; rfl; rfl; (apply X.buildSlice1 (d := 25); (iterate 8 rfl)); intro b25 _) | (apply TL.x; rfl; rfl; (apply X.append1 3; (iterate 9 rfl); exact List.Mem.head _; rfl; rfl; rfl; (refine Nat.le_trans (Nat.mul_le_mul_right _ (show _ ≤ 20001 by omega)) ?_; decide); omega); intro pa _) | (apply TL.val; rfl; rfl; (first | exact vpure | exact vread))))
      all_goals (try contradiction)
      all_goals (try (exfalso; omega))
      refine N.round (.slice (some ⟨pa.1, 0, none⟩) (ys.length + 1) pa.2, k + 1, H2, ys ++ [y]) ⟨by show k + 1 ≤ _; omega, hle.trans hle2, ?_, fun z hz => ?_, by simp only [List.length_append, List.length_cons, List.length_nil]; omega⟩ (by show s.len - (k + 1) < s.len - k; omega) (by (repeat (first | exact True.intro | refine ⟨rfl, ?_⟩ | refine Sub.int rfl (by omega) ?_))) rfl ?_
      · simp only [hup, List.map_append, hmap, List.map_cons, List.map_nil, hy1]
      · rcases List.mem_append.1 hz with hz | hz
        · exact Enc.mono hle2 (hgood z hz)
        · rw [List.mem_singleton.1 hz]; exact hy2
      · simp only [List.length_append, List.length_cons, List.length_nil, Nat.zero_add, encs_snoc]
        (repeat (first | exact List.Sublist.refl _ | exact List.nil_sublist _ | apply List.Sublist.cons_cons | apply List.Sublist.cons))
    | false =>
      rw [htk, if_neg (by decide), List.append_nil] at hup
      simp only [htk] at hc1
      repeat (any_goals (first | refine T.seq ?_ | refine T.region ?_ | refine TL.nil ?_ | refine N.next ?_ | refine N.inBlock ?_ | refine N.exit_same ?_ | refine N.exit_then ?_ | refine T.ret ?_ | refine T.skip ?_ | refine T.exit ?_ | refine T.block ?_ | (apply T.cond_false; rfl) | (apply T.test; rfl; (exact isx); intro _; rotate_left; intro _; rotate_right) | (apply TL.val; rfl; rfl; (apply V.elem (j := k); (iterate 6 rfl); omega; exact hg1.at_ (by omega))) | (apply TL.val; rfl; rfl; (apply V.load_H_row; rfl; rfl; rfl; exact hrow; rfl)) | (apply TL.x; rfl; rfl; (apply X.alloc (d := 7); rfl; rfl; rfl); intro b7 _) | (apply TL.x; rfl; rfl; (apply X.storeTo 0 (enc x); (iterate 10 rfl)); intro _ _) | (apply TL.x; rfl; rfl; (apply X.callFV (sgV x) cb; rfl; rfl; rfl; exact eg; exact fun _ hs => hc1 H1 _ hle hs.sat); rintro ⟨H2, y⟩ ⟨⟨_, hy2⟩, hle2⟩) | (apply TL.x; rfl; rfl; (apply X.alloc (d := 8); rfl; rfl; rfl); intro b8 _) | (apply TL.x; rfl; rfl; (apply X.storeTo 0 (enc y); (iterate 10 rfl)); intro _ _) | (apply TL.val; rfl; rfl; (first | exact vpure | exact vread))))
      all_goals (try contradiction)
      all_goals (try (exfalso; omega))
      refine N.round (v, k + 1, H2, ys) ⟨by show k + 1 ≤ _; omega, hle.trans hle2, by simp only [hup, hmap], fun z hz => Enc.mono hle2 (hgood z hz), by show ys.length ≤ k + 1; omega⟩ (by show s.len - (k + 1) < s.len - k; omega) (by (repeat (first | exact True.intro | refine ⟨rfl, ?_⟩ | refine Sub.int rfl (by omega) ?_))) rfl (by (repeat (first | exact List.Sublist.refl _ | exact List.nil_sublist _ | apply List.Sublist.cons_cons | apply List.Sublist.cons)))
  · have hke : k = s.len := by omega
    subst hke
    rw [List.take_of_length_le (by omega)] at hmap
    repeat (any_goals (first | refine T.seq ?_ | refine T.region ?_ | refine TL.nil ?_ | refine N.next ?_ | refine N.exit_same ?_ | refine N.exit_then ?_ | refine T.ret ?_ | refine T.skip ?_ | refine T.exit ?_ | refine T.block ?_ | (apply T.test; rfl; (exact isx); intro _; rotate_left; intro _; rotate_right) | (apply TL.val; rfl; rfl; (first | exact vpure | exact vread))))
    all_goals (try (exfalso; omega))
    exact N.ret1 rfl (by (exact rvx)) fun w hst => ⟨(H1, v, ys), ⟨hmap, hgood⟩, rfl, hst⟩
end Go.Proofs.YthabgdbhgcgemaaGreatDoor
namespace Go.Proofs.YthabgdbhgcgemaaGreatDoor
set_option linter.unusedVariables false
set_option linter.unusedSimpArgs false
open Go Go.RowKit
set_option linter.unusedSectionVars false
section
variable {P : Program} {n : FK} {S : World → Prop} {env : List (Nat × Value)} {w0 : World} {H0 H : Hp} {L : List Loc}
theorem X.callB (us : List Value) {G : Type} {φ : G → Prop} {v : G → Value} {HH : G → Hp} {LL : G → List Loc} {d : Nat} {x : Operand} {args : Array Operand} {tys : Array TypeId} {ty : TypeId} {pos : String} {after : Array Edge} {g : Option (Nat × Bool)} {f : FuncId} {first cap : Array Value} {vs : List Value} (hn : Nat.blt d n.n = true)
    (hx : ev env x = some (.func (.func f) first cap)) (hargs : evs env args.toList = some vs) (hus : first ++ vs.toArray ++ cap = us.toArray)
    (hcall : ∀ (args : Array Value) (w : World), (callFunc f args).run P w = .ok (.enter f args) w)
    (hc : ∀ w, St w0 H0 H L w → CallsIn (FW none) 0 P f us.toArray w (fun e w' => ∃ g, φ g ∧ e = .returned (v g) ∧ St w0 H0 (HH g) (LL g) w')) :
    X P n w0 H0 env H L ⟨some d, .call { callee := .value x, args := args, argTypes := tys }, ty, pos, after, g⟩ false φ (fun g => (d, v g) :: env) HH LL :=
  X.callS hn hx hargs hcall (by rw [hus]; exact hc)
end
end Go.Proofs.YthabgdbhgcgemaaGreatDoor
namespace Go.Proofs.YthabgdbhgcgemaaGreatDoor
set_option linter.unusedVariables false
set_option linter.unusedSimpArgs false
open Go Go.RowKit
open Enc (enc)
set_option maxRecDepth 20000
section
variable {P : Program} {n : FK} {w0 w : World} {H0 H : Hp} {Q : Exit → Act → World → Prop} {env : List (Nat × Value)} {L : List Loc} {ops rest : List Oper}
theorem St.frzZ {b : Nat} {e : TypeId} {cs : List Value} (hs : St w0 H0 H (.blk b e cs :: L) w) : ∃ H' : Hp, H'.cells b 0 cs ∧ H.le H' ∧ St w0 H0 H' L w :=
  ⟨_, Hp.put_cells, hs.putLe (List.Mem.head _) _, hs.freeze rfl ((hs.ok _ (List.Mem.head _)).2)⟩
theorem TL.frzZ (i : Nat) {b : Nat} {e : TypeId} {cs : List Value} (hi : L[i]? = some (.blk b e cs)) (h : ∀ (H' : Hp), H'.cells b 0 cs → H.le H' → TL P n w0 H0 ops Q rest env H' (L.eraseIdx i)) : TL P n w0 H0 ops Q rest env H L := by
  refine TL.perm _ (perm_of hi) ⟨fun a w hf hs => ?_⟩
  obtain ⟨H', e3, e4, e5⟩ := hs.frzZ
  exact (h H' e3 e4).out a w hf e5
end
structure ClockV where
  off : Int
  every : Int
instance : Enc ClockV where
  size := 2
  enc c := [intV c.off, intV c.every]
  good _ c := I64 c.off ∧ I64 c.every
  len _ := rfl
  mono _ h := h
  one _ := rfl
  pos := by decide
end Go.Proofs.YthabgdbhgcgemaaGreatDoor
namespace Go.Proofs.YthabgdbhgcgemaaGreatDoor
set_option linter.unusedVariables false
set_option linter.unusedSimpArgs false
open Go Go.RowKit
open Enc (enc)
set_option maxRecDepth 20000
structure SpanV where
  frm : Int
  til : Int
deriving DecidableEq
instance : Enc SpanV where
  size := 2
  enc s := [intV s.frm, intV s.til]
  good _ s := I64 s.frm ∧ I64 s.til
  len _ := rfl
  mono _ h := h
  one _ := rfl
  pos := by decide
end Go.Proofs.YthabgdbhgcgemaaGreatDoor
namespace Go.Proofs.YthabgdbhgcgemaaGreatDoor
set_option linter.unusedVariables false
set_option linter.unusedSimpArgs false
open Go Go.RowKit
set_option maxRecDepth 20000
def rowOf (o : Option (Nat × Nat)) (n : Nat) : Value := match o with
  | none => .slice none 0 0
  | some p => .slice (some ⟨p.1, 0, none⟩) n p.2
end Go.Proofs.YthabgdbhgcgemaaGreatDoor
