/- Walks: numbers, labels, texts. -/
import Derived.Test.YtogcofeencgipaaGreatDoorZTac
import Derived.Test.YtogcofeencgipaaGreatDoorZWA
import Derived.Test.YtogcofeencgipaaGreatDoorZWB
import Derived.Test.YtogcofeencgipaaGreatDoorZSpec
import Derived.Test.YtogcofeencgipaaGreatDoorZWF
import Derived.Test.YtogcofeencgipaaGreatDoorZWEq
import Derived.Test.YtogcofeencgipaaGreatDoorZWG
import Derived.Test.YtogcofeencgipaaGreatDoorZEng
import Derived.Laws.OwnMore
import Derived.Laws.Append
import Derived.Laws.Small
import Derived.Laws.MakeOwn
import Derived.Laws.IdiomCopy
import Derived.Laws.StructEq
import Derived.Test.YtogcofeencgipaaGreatDoorZEngC
import Derived.Test.YtogcofeencgipaaGreatDoorZNP
import Derived.Test.YtogcofeencgipaaGreatDoorZNQ
import Derived.Test.YtogcofeencgipaaGreatDoorZNM
import Derived.Test.YtogcofeencgipaaGreatDoorZWH
import Derived.Test.YtogcofeencgipaaGreatDoorZWJ
import Derived.Test.YtogcofeencgipaaGreatDoorZNA
import Derived.Test.YtogcofeencgipaaGreatDoorZNYB
namespace Go.Proofs.YtogcofeencgipaaGreatDoor
set_option linter.unusedVariables false
set_option linter.unusedSimpArgs false
open Go Go.RowKit
open Enc (enc)
theorem visX {p : Prop} (h : p := by with_reducible (first | exact Is.ndec | exact Is.dec | exact Is.not | ((fail_if_success exact Is.litT); (fail_if_success exact Is.litF); exact Is.base))) : p := h
theorem vsubX {p : Prop} (h : p := by repeat (first | exact List.Sublist.refl _ | exact List.nil_sublist _ | apply List.Sublist.cons_cons | apply List.Sublist.cons)) : p := h
theorem vsub0 {p : Prop} (h : p := by repeat (first | exact True.intro | refine ⟨rfl, ?_⟩ | refine Sub.int rfl (by omega) ?_)) : p := h
set_option maxRecDepth 20000
theorem c_within26 (x lo hi : Int) (H : Hp) (w : World) (hs : Sat H w) : Calls Tryz.prog 68 #[intV x, intV lo, intV hi] w (Ret w (.bool (decide (lo ≤ x ∧ x ≤ hi)))) := by
  refine T.enter (vs := [intV x, intV lo, intV hi]) (H := H) Tryz.func68 rfl rfl rfl hs ?_
  repeat (any_goals (first | refine T.seq ?_ | refine T.region ?_ | refine TL.nil ?_ | refine N.next ?_ | refine N.inBlock ?_ | refine N.exit_same ?_ | refine N.exit_then ?_ | refine N.ret_then ?_ | refine N.ret_block ?_ | (apply N.exit_other; rfl) | refine T.ret ?_ | refine T.skip ?_ | refine T.exit ?_ | refine T.block ?_ | (apply T.cond_true; rfl) | (apply T.cond_false; rfl) | (apply T.test; rfl; (exact visX); intro _; rotate_left; intro _; rotate_right) | (apply TL.skip; rfl; rfl; rfl) | (apply TL.skip_none; rfl; rfl) | (apply TL.val; rfl; rfl; (first | exact vpure | exact vread)) | (apply TL.x; rfl; rfl; (first | exact xgrow | exact xput); intro _ _) | (apply TL.guard; rfl; rfl; rfl; (exact visX); intro _; rotate_left; intro _; rotate_right)))
  all_goals (try (first | (apply N.ret_bool; rfl; (exact rvx)) | (apply N.ret_int; rfl; (exact rvx)) | (apply N.ret_val; rfl; (exact rvx))))
  all_goals (first | rfl | (rw [Bool.eq_iff_iff]; simp only [decide_eq_true_eq, Bool.false_eq_true, Bool.true_eq_false, true_iff, false_iff, iff_true, iff_false]; omega))
theorem c_Window (x y : Int) (H : Hp) (w : World) (hs : Sat H w) : Calls Tryz.prog 215 #[intV x, intV y] w (Ret w (.bool (decide (0 ≤ x ∧ x ≤ y ∧ y ≤ 20000000)))) := by
  refine T.enter (vs := [intV x, intV y]) (H := H) Tryz.func215 rfl rfl rfl hs ?_
  repeat (any_goals (first | refine T.seq ?_ | refine T.region ?_ | refine TL.nil ?_ | refine N.next ?_ | refine N.inBlock ?_ | refine N.exit_same ?_ | refine N.exit_then ?_ | refine N.ret_then ?_ | refine N.ret_block ?_ | (apply N.exit_other; rfl) | refine T.ret ?_ | refine T.skip ?_ | refine T.exit ?_ | refine T.block ?_ | (apply T.cond_true; rfl) | (apply T.cond_false; rfl) | (apply T.test; rfl; (exact visX); intro _; rotate_left; intro _; rotate_right) | (apply TL.skip; rfl; rfl; rfl) | (apply TL.skip_none; rfl; rfl) | (apply TL.val; rfl; rfl; (first | exact vpure | exact vread)) | (apply TL.x; rfl; rfl; (first | exact xgrow | exact xput); intro _ _) | (apply TL.guard; rfl; rfl; rfl; (exact visX); intro _; rotate_left; intro _; rotate_right)))
  all_goals (try (first | (apply N.ret_bool; rfl; (exact rvx)) | (apply N.ret_int; rfl; (exact rvx)) | (apply N.ret_val; rfl; (exact rvx))))
  all_goals (first | rfl | (rw [Bool.eq_iff_iff]; simp only [decide_eq_true_eq, Bool.false_eq_true, Bool.true_eq_false, true_iff, false_iff, iff_true, iff_false]; omega))
theorem c_Sig26 (g : Sig) (H : Hp) (w : World) (hs : Sat H w) (hg : Enc.good H g) : Calls Tryz.prog 185 #[.agg (enc g).toArray] w (Ret w (.bool (sigOK g))) := by
  have hl := hg.1
  refine T.enter (vs := [.agg (enc g).toArray]) (H := H) Tryz.func185 rfl rfl rfl hs ?_
  repeat (any_goals (first | refine T.seq ?_ | refine T.region ?_ | refine TL.nil ?_ | refine N.next ?_ | refine N.inBlock ?_ | refine N.exit_same ?_ | refine N.exit_then ?_ | refine N.ret_then ?_ | refine N.ret_block ?_ | (apply N.exit_other; rfl) | refine T.ret ?_ | refine T.skip ?_ | refine T.exit ?_ | refine T.block ?_ | (apply T.cond_true; rfl) | (apply T.cond_false; rfl) | (apply T.test; rfl; (exact visX); intro _; rotate_left; intro _; rotate_right) | (apply TL.skip; rfl; rfl; rfl) | (apply TL.skip_none; rfl; rfl) | (apply TL.call0 (f := 68) Tryz.call68; rfl; rfl; rfl; (exact fun _ hs => c_within26 _ _ _ _ _ hs.sat)) | (apply TL.call0 (f := 92) Tryz.call92; rfl; rfl; rfl; (exact fun _ hs => c_nameValid01 _ _ _ hs.sat hl)) | (apply TL.call0 (f := 215) Tryz.call215; rfl; rfl; rfl; (exact fun _ hs => c_Window _ _ _ _ hs.sat)) | (apply TL.val; rfl; rfl; (first | exact vpure | exact vread)) | (apply TL.x; rfl; rfl; (first | exact xgrow | exact xput); intro _ _) | (apply TL.guard; rfl; rfl; rfl; (exact visX); intro _; rotate_left; intro _; rotate_right)))
  all_goals (try (first | (apply N.ret_bool; rfl; (exact rvx)) | (apply N.ret_int; rfl; (exact rvx)) | (apply N.ret_val; rfl; (exact rvx))))
  all_goals (unfold sigOK; simp [*])
theorem c_Signed26 (s : Signed) (H : Hp) (w : World) (hs : Sat H w) (hg : Enc.good H s) : Calls Tryz.prog 130 #[.agg (enc s).toArray] w (Ret w (.bool (signedOK s.c))) := by
  obtain ⟨h1, h2⟩ := hg
  have hlen : s.sigs.els.length = s.sigs.len := h2.len
  have hlim := h2.lim
  have hsp : signedOK s.c = (decide (s.sigs.els.length ≤ 6) && setOK s.set.c && s.sigs.els.all sigOK) := rfl
  refine T.enter (vs := [.agg (enc s).toArray]) (H := H) Tryz.func130 rfl rfl rfl hs ?_
  repeat (any_goals (first | refine T.seq ?_ | refine T.region ?_ | refine TL.nil ?_ | refine N.next ?_ | refine N.inBlock ?_ | refine N.exit_same ?_ | refine N.exit_then ?_ | refine N.ret_then ?_ | refine N.ret_block ?_ | (apply N.exit_other; rfl) | refine T.ret ?_ | refine T.skip ?_ | refine T.exit ?_ | refine T.block ?_ | (apply T.cond_true; rfl) | (apply T.cond_false; rfl) | (apply T.test; rfl; (exact visX); intro _; rotate_left; intro _; rotate_right) | (apply TL.skip; rfl; rfl; rfl) | (apply TL.skip_none; rfl; rfl) | (apply TL.val; rfl; rfl; (first | exact vpure | exact vread)) | (apply TL.x; rfl; rfl; (first | exact xgrow | exact xput); intro _ _) | (apply TL.guard; rfl; rfl; rfl; (exact visX); intro _; rotate_left; intro _; rotate_right)))
  rename_i b _
  refine T.loop (G := Nat) (fun k => [(1, .pointer (some ⟨b, 0, none⟩)), (3, intV k)]) (fun _ => H) (fun _ => [.blk b 65 (enc s)]) (fun k => k ≤ s.sigs.len ∧ AllTo sigOK s.sigs.els k) (fun k => s.sigs.len - k) 0 ⟨Nat.zero_le _, allTo_zero⟩ (by exact vsub0) rfl (by (first | exact List.Sublist.refl _ | exact List.nil_sublist _ | exact List.Sublist.cons _ (List.Sublist.refl _) | exact List.Sublist.cons _ (List.Sublist.cons _ (List.Sublist.refl _)))) ?_
  rintro k ⟨hk, hrel⟩
  repeat (any_goals (first | refine T.seq ?_ | refine T.region ?_ | refine TL.nil ?_ | refine N.next ?_ | refine N.inBlock ?_ | refine N.exit_same ?_ | refine N.exit_then ?_ | refine N.ret_then ?_ | refine N.ret_block ?_ | (apply N.exit_other; rfl) | refine T.ret ?_ | refine T.skip ?_ | refine T.exit ?_ | refine T.block ?_ | (apply T.cond_true; rfl) | (apply T.cond_false; rfl) | (apply T.test; rfl; (exact visX); intro _; rotate_left; intro _; rotate_right) | (apply TL.skip; rfl; rfl; rfl) | (apply TL.skip_none; rfl; rfl) | (apply TL.call0 (f := 185) Tryz.call185; rfl; rfl; rfl; (exact fun _ hs => c_Sig26 _ _ _ hs.sat (h2.el (by omega)))) | (apply TL.call0 (f := 45) Tryz.call45; rfl; rfl; rfl; (exact fun _ hs => c_Valid02 _ _ _ hs.sat h1)) | (apply TL.val; rfl; rfl; (first | exact vpure | exact vread)) | (apply TL.x; rfl; rfl; (first | exact xgrow | exact xput); intro _ _) | (apply TL.guard; rfl; rfl; rfl; (exact visX); intro _; rotate_left; intro _; rotate_right)))
  all_goals (try (first | (apply N.ret_bool; rfl; (exact rvx)) | (apply N.ret_int; rfl; (exact rvx)) | (apply N.ret_val; rfl; (exact rvx))))
  all_goals (try (refine N.round (k + 1) ?_ ?_ ?_ ?_ ?_; rotate_left 2; (repeat (first | exact True.intro | refine ⟨rfl, ?_⟩ | refine Sub.int rfl (by omega) ?_)); rfl; (first | exact List.Sublist.refl _ | exact List.nil_sublist _ | exact List.Sublist.cons _ (List.Sublist.refl _) | exact List.Sublist.cons _ (List.Sublist.cons _ (List.Sublist.refl _)))))
  all_goals first
    | omega
    | exact ⟨by omega, allTo_up (by omega) hrel (by assumption)⟩
    | (rw [hsp, all_no (k := k) (by omega) (by assumption), Bool.and_false])
    | (rw [hsp, allTo_end hrel (by omega), Bool.and_true]; rename_i h; rw [h, hlen, Bool.and_true]; exact decide_eq_decide.2 (by omega))
    | (rw [hsp, allTo_end hrel (by omega), Bool.and_true]; rename_i h; rw [h, Bool.and_false])
theorem answerOK_no' {a : Answer} (hlen : a.sets.els.length = a.sets.len) {k : Nat} (hk : k < a.sets.els.length) (h : signedOK a.sets.els[k].c = false) : false = answerOK a.c := (Bool.eq_false_iff.2 fun h' => by
  have := ((answerOK_iff a hlen).1 h').2
  rw [all_no hk (p := fun s => signedOK s.c) h] at this; cases this).symm
theorem answerOK_yes {a : Answer} (hlen : a.sets.els.length = a.sets.len) (h : AnsHead a) {k : Nat} (hk : a.sets.els.length ≤ k) (h' : AllTo (fun s => signedOK s.c) a.sets.els k) : true = answerOK a.c := ((answerOK_iff a hlen).2 ⟨h, allTo_end h' hk⟩).symm
theorem c_Answer26 (a : Answer) (H : Hp) (w : World) (hs : Sat H w) (hg : Enc.good H a) : Calls Tryz.prog 70 #[.agg (enc a).toArray] w (Ret w (.bool (answerOK a.c))) := by
  obtain ⟨h1, h2, h3⟩ := hg
  have hlen : a.sets.els.length = a.sets.len := h2.len
  have hlim := h2.lim
  refine T.enter (vs := [.agg (enc a).toArray]) (H := H) Tryz.func70 rfl rfl rfl hs ?_
  repeat (any_goals (first | (apply T.seqU 3; rfl) | refine T.region ?_ | refine TL.nil ?_ | refine N.next ?_ | refine N.inBlock ?_ | refine N.exit_same ?_ | refine N.exit_then ?_ | refine N.ret_then ?_ | refine N.ret_block ?_ | (apply N.exit_other; rfl) | refine T.ret ?_ | refine T.skip ?_ | refine T.exit ?_ | refine T.block ?_ | (apply T.cond_true; rfl) | (apply T.cond_false; rfl) | (apply T.test; rfl; (exact visX); intro _; rotate_left; intro _; rotate_right) | (apply TL.skip; rfl; rfl; rfl) | (apply TL.skip_none; rfl; rfl) | (apply TL.val; rfl; rfl; (first | exact vpure | exact vread)) | (apply TL.x; rfl; rfl; (first | exact xgrow | exact xput); intro _ _) | (apply TL.guard; rfl; rfl; rfl; (exact visX); intro _; rotate_left; intro _; rotate_right)))
  rename_i b _
  refine T.cut (G := Unit) (fun _ => [(1, .pointer (some ⟨b, 0, none⟩))]) (fun _ => H) (fun _ => [.blk b 26 (enc a)]) (fun _ => AnsHead a) ?_ ?_
  · repeat (any_goals (first | refine T.seq ?_ | refine T.region ?_ | refine TL.nil ?_ | refine N.next ?_ | refine N.inBlock ?_ | refine N.exit_same ?_ | refine N.exit_then ?_ | refine N.ret_then ?_ | refine N.ret_block ?_ | (apply N.exit_other; rfl) | refine T.ret ?_ | refine T.skip ?_ | refine T.exit ?_ | refine T.block ?_ | (apply T.cond_true; rfl) | (apply T.cond_false; rfl) | (apply T.test; rfl; (exact visX); intro _; rotate_left; intro _; rotate_right) | (apply TL.skip; rfl; rfl; rfl) | (apply TL.skip_none; rfl; rfl) | (apply TL.call0 (f := 68) Tryz.call68; rfl; rfl; rfl; (exact fun _ hs => c_within26 _ _ _ _ _ hs.sat)) | (apply TL.call0 (f := 92) Tryz.call92; rfl; rfl; rfl; (exact fun _ hs => c_nameValid01 _ _ _ hs.sat h3)) | (apply TL.val; rfl; rfl; (first | exact vpure | exact vread)) | (apply TL.x; rfl; rfl; (first | exact xgrow | exact xput); intro _ _) | (apply TL.guard; rfl; rfl; rfl; (exact visX); intro _; rotate_left; intro _; rotate_right)))
    all_goals (try (first | (apply N.ret_bool; rfl; (exact rvx)) | (apply N.ret_int; rfl; (exact rvx)) | (apply N.ret_val; rfl; (exact rvx))))
    all_goals (try (refine N.cut (()) ?_ ?_ ?_ ?_; rotate_left 1; (repeat (first | exact True.intro | refine ⟨rfl, ?_⟩ | refine Sub.int rfl (by omega) ?_)); rfl; (first | exact List.Sublist.refl _ | exact List.nil_sublist _ | exact List.Sublist.cons _ (List.Sublist.refl _) | exact List.Sublist.cons _ (List.Sublist.cons _ (List.Sublist.refl _)))))
    all_goals first
      | exact ⟨by assumption, by omega, fun _ => by first | assumption | (exfalso; omega), fun _ => by first | assumption | (exfalso; omega)⟩
      | exact answerOK_no hlen (by rintro ⟨b1, b2, b3, b4⟩; first | omega | exact absurd ((b3 (by assumption)).symm.trans (by assumption : nameOK a.cut = false)) (by decide) | exact absurd (b4 (by assumption)) (by assumption))
  · rintro ⟨⟩ hh
    repeat (any_goals (first | refine T.seq ?_ | refine T.region ?_ | refine TL.nil ?_ | refine N.next ?_ | refine N.inBlock ?_ | refine N.exit_same ?_ | refine N.exit_then ?_ | refine N.ret_then ?_ | refine N.ret_block ?_ | (apply N.exit_other; rfl) | refine T.ret ?_ | refine T.skip ?_ | refine T.exit ?_ | refine T.block ?_ | (apply T.cond_true; rfl) | (apply T.cond_false; rfl) | (apply T.test; rfl; (exact visX); intro _; rotate_left; intro _; rotate_right) | (apply TL.skip; rfl; rfl; rfl) | (apply TL.skip_none; rfl; rfl) | (apply TL.val; rfl; rfl; (first | exact vpure | exact vread)) | (apply TL.x; rfl; rfl; (first | exact xgrow | exact xput); intro _ _) | (apply TL.guard; rfl; rfl; rfl; (exact visX); intro _; rotate_left; intro _; rotate_right)))
    refine T.loop (G := Nat) (fun k => [(1, .pointer (some ⟨b, 0, none⟩)), (3, intV k)]) (fun _ => H) (fun _ => [.blk b 26 (enc a)]) (fun k => k ≤ a.sets.len ∧ AllTo (fun s => signedOK s.c) a.sets.els k) (fun k => a.sets.len - k) 0 ⟨Nat.zero_le _, allTo_zero⟩ (by exact vsub0) rfl (by (first | exact List.Sublist.refl _ | exact List.nil_sublist _ | exact List.Sublist.cons _ (List.Sublist.refl _) | exact List.Sublist.cons _ (List.Sublist.cons _ (List.Sublist.refl _)))) ?_
    rintro k ⟨hk, hrel⟩
    repeat (any_goals (first | refine T.seq ?_ | refine T.region ?_ | refine TL.nil ?_ | refine N.next ?_ | refine N.inBlock ?_ | refine N.exit_same ?_ | refine N.exit_then ?_ | refine N.ret_then ?_ | refine N.ret_block ?_ | (apply N.exit_other; rfl) | refine T.ret ?_ | refine T.skip ?_ | refine T.exit ?_ | refine T.block ?_ | (apply T.cond_true; rfl) | (apply T.cond_false; rfl) | (apply T.test; rfl; (exact visX); intro _; rotate_left; intro _; rotate_right) | (apply TL.skip; rfl; rfl; rfl) | (apply TL.skip_none; rfl; rfl) | (apply TL.call0 (f := 130) Tryz.call130; rfl; rfl; rfl; (exact fun _ hs => c_Signed26 _ _ _ hs.sat (h2.el (by omega)))) | (apply TL.val; rfl; rfl; (first | exact vpure | exact vread)) | (apply TL.x; rfl; rfl; (first | exact xgrow | exact xput); intro _ _) | (apply TL.guard; rfl; rfl; rfl; (exact visX); intro _; rotate_left; intro _; rotate_right)))
    all_goals (try (first | (apply N.ret_bool; rfl; (exact rvx)) | (apply N.ret_int; rfl; (exact rvx)) | (apply N.ret_val; rfl; (exact rvx))))
    all_goals (try (refine N.round (k + 1) ?_ ?_ ?_ ?_ ?_; rotate_left 2; (repeat (first | exact True.intro | refine ⟨rfl, ?_⟩ | refine Sub.int rfl (by omega) ?_)); rfl; (first | exact List.Sublist.refl _ | exact List.nil_sublist _ | exact List.Sublist.cons _ (List.Sublist.refl _) | exact List.Sublist.cons _ (List.Sublist.cons _ (List.Sublist.refl _)))))
    all_goals first
      | omega
      | exact ⟨by omega, allTo_up (by omega) hrel (by assumption)⟩
      | exact answerOK_no' hlen (k := k) (by omega) (by assumption)
      | exact answerOK_yes hlen hh (by omega) hrel
section
variable {P : Program} {n : FK} {w0 w w' : World} {H0 H H' : Hp} {Q : Exit → Act → World → Prop} {env : List (Nat × Value)} {L L' : List Loc} {ops rest : List Oper} {α : Type} [Enc α]
/-- .. the row's shape behind an append. -/
theorem X.appendSlcS [Tys P] (i : Nat) (s : Slc α) {d : Nat} {t e ty : TypeId} {x y : Operand} {pos : String} {after : Array Edge} {g : Option (Nat × Bool)} {k ke : TyK} {v : Value} {m : Nat} {xs : List Value} (hn : Nat.blt d n.n = true) (hk : tyk P t = some k) (hd : k.desc = .slice e) (hke : tyk P e = some ke) (h0 : Nat.beq ke.size 0 = false) (hz : Nat.beq ke.zero.cells.size ke.size = true)
    (hx : ev env x = some v) (hi : L[i]? = some (.row v e ke.size m xs)) (hy : ev env y = some s.v) (hsz : ke.size = Enc.size α) (hg : s.Good H) (hb : (m + s.len) * ke.bytes ≤ 140737488355328) (h63 : m + s.len ≤ 9223372036854775807) :
    X P n w0 H0 env H L ⟨some d, .call { callee := .builtin .append, args := #[x, y], argTypes := #[t, t] }, ty, pos, after, g⟩ false (G := Option Nat × Nat) (fun _ => True) (fun p => (d, .slice (p.1.map fun g => ⟨g, 0, none⟩) (m + s.len) p.2) :: env) (fun _ => H) (fun p => L.set i (.row (.slice (p.1.map fun g => ⟨g, 0, none⟩) (m + s.len) p.2) e ke.size (m + s.len) (xs ++ encs s.els))) :=
  ⟨fun a w hf hs K Q hK => by
    refine (X.appendSlc i s (pos := pos) (after := after) (g := g) (ty := ty) hn hk hd hke h0 hz hx hi hy hsz hg hb h63).out a w hf hs K Q fun v' a' w' _ hg' hf' hs' => ?_
    have hlen : i < L.length := (List.getElem?_eq_some_iff.1 hi).1
    have hme : Loc.row v' e ke.size (m + s.len) (xs ++ encs s.els) ∈ L.set i (.row v' e ke.size (m + s.len) (xs ++ encs s.els)) := List.mem_of_getElem? (i := i) (by simp [hlen])
    obtain ⟨o, c, rfl, _⟩ := hs'.rowShape hme
    exact hK (o, c) a' w' trivial hg' hf' hs'⟩
end
set_option linter.unusedSectionVars false
set_option linter.unusedSectionVars false
set_option linter.unusedSectionVars false
/-- What a call that hands back signed sets leaves. -/
def Lists (w : World) (H : Hp) (r : List SignedC × Int) : Ending → World → Prop := RetF w H (fun g : Hp × Slc Signed => g.2.els.map Signed.c = r.1 ∧ g.2.Good g.1) (fun g => .tuple #[g.2.v, intV r.2]) (fun g => g.1)
theorem c_Time22 (x : Int) (H : Hp) (w : World) (hs : Sat H w) : Calls Tryz.prog 81 #[intV x] w (Ret w (.bool (decide (0 ≤ x ∧ x ≤ 20000000)))) := by
  refine T.enter (vs := [intV x]) (H := H) Tryz.func81 rfl rfl rfl hs ?_
  repeat (any_goals (first | refine T.seq ?_ | refine T.region ?_ | refine TL.nil ?_ | refine N.next ?_ | refine N.inBlock ?_ | refine N.exit_same ?_ | refine N.exit_then ?_ | refine N.ret_then ?_ | refine N.ret_block ?_ | (apply N.exit_other; rfl) | refine T.ret ?_ | refine T.skip ?_ | refine T.exit ?_ | refine T.block ?_ | (apply T.cond_true; rfl) | (apply T.cond_false; rfl) | (apply T.test; rfl; (exact visX); intro _; rotate_left; intro _; rotate_right) | (apply TL.skip; rfl; rfl; rfl) | (apply TL.skip_none; rfl; rfl) | (apply TL.val; rfl; rfl; (first | exact vpure | exact vread)) | (apply TL.x; rfl; rfl; (first | exact xgrow | exact xput); intro _ _) | (apply TL.guard; rfl; rfl; rfl; (exact visX); intro _; rotate_left; intro _; rotate_right)))
  all_goals (try (first | (apply N.ret_bool; rfl; (exact rvx)) | (apply N.ret_int; rfl; (exact rvx)) | (apply N.ret_val; rfl; (exact rvx))))
  all_goals (first | rfl | (rw [Bool.eq_iff_iff]; simp only [decide_eq_true_eq, Bool.false_eq_true, Bool.true_eq_false, true_iff, false_iff, iff_true, iff_false]; omega))
theorem c_Entry22 (e : Entry) (H : Hp) (w : World) (hs : Sat H w) (hg : Enc.good H e) : Calls Tryz.prog 135 #[.agg (enc e).toArray] w (Ret w (.bool (entryOK e.c))) := by
  have h1 := hg.1.1.2.2.2.len
  have h2 := hg.1.2.len
  have hi := entryOK_iff h1 h2
  have hdn := denial_len hg
  refine T.enter (vs := [.agg (enc e).toArray]) (H := H) Tryz.func135 rfl rfl rfl hs ?_
  repeat (any_goals (first | refine T.seq ?_ | refine T.region ?_ | refine TL.nil ?_ | refine N.next ?_ | refine N.inBlock ?_ | refine N.exit_same ?_ | refine N.exit_then ?_ | refine N.ret_then ?_ | refine N.ret_block ?_ | (apply N.exit_other; rfl) | refine T.ret ?_ | refine T.skip ?_ | refine T.exit ?_ | refine T.block ?_ | (apply T.cond_true; rfl) | (apply T.cond_false; rfl) | (apply T.test; rfl; (exact visX); intro _; rotate_left; intro _; rotate_right) | (apply TL.skip; rfl; rfl; rfl) | (apply TL.skip_none; rfl; rfl) | (apply TL.x; rfl; rfl; (apply X.storeTo 0 (enc e.signed.set); (iterate 10 rfl)); intro _ _) | (apply TL.call0 (f := 41) Tryz.call41; rfl; rfl; rfl; (exact fun _ hs => c_Inside _ _ _ _ hs.sat hg.1.1.1 hg.2.1)) | (apply TL.call0 (f := 36) Tryz.call36; rfl; rfl; rfl; (exact fun _ hs => c_Denial e _ _ hs.sat hg)) | (apply TL.call0 (f := 45) Tryz.call45; rfl; rfl; rfl; (exact fun _ hs => c_Valid02 e.signed.set _ _ hs.sat hg.1.1)) | (apply TL.call0 (f := 42) Tryz.call42; rfl; rfl; rfl; (exact fun _ hs => c_Sigs06 e.signed.sigs e.zone _ _ hs.sat hg.1.2 hg.2.1)) | (apply TL.val; rfl; rfl; (first | exact vpure | exact vread)) | (apply TL.x; rfl; rfl; (first | exact xgrow | exact xput); intro _ _) | (apply TL.guard; rfl; rfl; rfl; (exact visX); intro _; rotate_left; intro _; rotate_right)))
  all_goals (try (first | (apply N.ret_bool; rfl; (exact rvx)) | (apply N.ret_int; rfl; (exact rvx)) | (apply N.ret_val; rfl; (exact rvx))))
  all_goals (rw [Bool.eq_iff_iff, hi])
  all_goals (try rw [hdn] at *)
  all_goals (try simp only [decide_eq_true_eq, decide_eq_false_iff_not] at *)
  all_goals first
    | (simp [*]; done)
    | exact ⟨fun h => ⟨by assumption, ⟨by omega, by omega⟩, fun h0 => by omega, fun _ => ⟨by assumption, h⟩⟩, fun h => (h.2.2.2 (by omega)).2⟩
    | (simp [*]; omega)
    | trace_state
theorem c_Alike (a b : Entry) (H : Hp) (w : World) (hs : Sat H w) : Calls Tryz.prog 136 #[.agg (enc a).toArray, .agg (enc b).toArray] w (Ret w (.bool (alikeC a.c b.c))) := by
  have e : alikeC a.c b.c = true ↔ a.signed.set.name = b.signed.set.name ∧ a.signed.set.typ = b.signed.set.typ ∧ a.zone = b.zone := by
    rw [alike_iff]
    unfold keyC
    simp only [Prod.mk.injEq]
    rfl
  refine T.enter (vs := [.agg (enc a).toArray, .agg (enc b).toArray]) (H := H) Tryz.func136 rfl rfl rfl hs ?_
  repeat (any_goals (first | refine T.seq ?_ | refine T.region ?_ | refine TL.nil ?_ | refine N.next ?_ | refine N.inBlock ?_ | refine N.exit_same ?_ | refine N.exit_then ?_ | refine N.ret_then ?_ | refine N.ret_block ?_ | (apply N.exit_other; rfl) | refine T.ret ?_ | refine T.skip ?_ | refine T.exit ?_ | refine T.block ?_ | (apply T.cond_true; rfl) | (apply T.cond_false; rfl) | (apply T.test; rfl; (exact visX); intro _; rotate_left; intro _; rotate_right) | (apply TL.skip; rfl; rfl; rfl) | (apply TL.skip_none; rfl; rfl) | (apply TL.val; rfl; rfl; (first | exact vpure | exact vread)) | (apply TL.x; rfl; rfl; (first | exact xgrow | exact xput); intro _ _) | (apply TL.guard; rfl; rfl; rfl; (exact visX); intro _; rotate_left; intro _; rotate_right)))
  all_goals (try (first | (apply N.ret_bool; rfl; (exact rvx)) | (apply N.ret_int; rfl; (exact rvx)) | (apply N.ret_val; rfl; (exact rvx))))
  all_goals (rw [Bool.eq_iff_iff, e]; simp [*])
theorem keys_no {l : List Entry} {k : Nat} (hk : k < l.length) (h : ∀ j (hj : j < l.length), j < k → alikeC l[j].c l[k].c = false) : keyC l[k].c ∉ keysUp l k := by
  intro hm
  obtain ⟨x, hx, e⟩ := List.mem_map.1 hm
  obtain ⟨j, hj, rfl⟩ := List.mem_iff_getElem.1 hx
  rw [List.length_take] at hj
  rw [List.getElem_take] at e
  have := h j (by omega) (by omega)
  rw [alike_iff.2 e] at this
  cases this
theorem keys_yes {l : List Entry} {k j : Nat} (hk : k < l.length) (hj : j < k) (h : alikeC (l[j]'(by omega)).c l[k].c = true) : keyC l[k].c ∈ keysUp l k := by
  refine List.mem_map.2 ⟨l[j]'(by omega), ?_, alike_iff.1 h⟩
  rw [List.mem_take_iff_getElem]
  exact ⟨j, by omega, rfl⟩
set_option maxHeartbeats 2000000 in
theorem c_Valid22 (c : Cache) (H : Hp) (w : World) (hs : Sat H w) (hg : Enc.good H c) : Calls Tryz.prog 80 #[.agg (enc c).toArray] w (Ret w (.bool (cacheOK c.c))) := by
  have hg' : c.list.Good H := hg
  have hlen := hg'.len
  have hlim := hg'.lim
  refine T.enter (vs := [.agg (enc c).toArray]) (H := H) Tryz.func80 rfl rfl rfl hs ?_
  repeat (any_goals (first | refine T.seq ?_ | refine T.region ?_ | (apply T.regionD wide; rfl) | refine TL.nil ?_ | refine N.next ?_ | refine N.inBlock ?_ | refine N.exit_same ?_ | refine N.exit_then ?_ | refine N.ret_then ?_ | refine N.ret_block ?_ | (apply N.exit_other; rfl) | refine T.ret ?_ | refine T.skip ?_ | refine T.exit ?_ | refine T.block ?_ | (apply T.cond_true; rfl) | (apply T.cond_false; rfl) | (apply T.test; rfl; (exact visX); intro _; rotate_left; intro _; rotate_right) | (apply TL.skip; rfl; rfl; rfl) | (apply TL.skip_none; rfl; rfl) | (apply GT.skip; rfl; rfl; rfl; decide +kernel) | (apply TL.val; rfl; rfl; (first | exact vpure | exact vread)) | (apply GT.pure; rfl; rfl; rfl; rfl; exact vpure; decide +kernel) | (apply GT.read; rfl; rfl; rfl; rfl; (first | exact vpure | exact vread); decide +kernel) | (apply GT.done; decide +kernel; apply N.ofQ) | (apply GT.adv; rfl) | (apply TL.x; rfl; rfl; (first | exact xgrow | exact xput); intro _ _) | (apply GS.grow; rfl; rfl; exact xgrow; intro _ _) | (apply GS.eff; rfl; decide +kernel; rfl; exact xput; intro _ _) | (apply TL.guard; rfl; rfl; rfl; (exact visX); intro _; rotate_left; intro _; rotate_right) | (apply GT.guard; rfl; rfl; rfl; rfl; (exact visX); intro _; rotate_left; intro _; rotate_right) | (apply GT.fork1; decide +kernel)))
  rename_i b _
  refine T.loop (G := Nat) (fun k => [(1, .pointer (some ⟨b, 0, none⟩)), (3, intV k)]) (fun _ => H) (fun _ => [.blk b 46 (enc c)]) (fun k => k ≤ c.list.len ∧ CacheTo c.list.els k) (fun k => c.list.len - k) 0 ⟨Nat.zero_le _, fun j _ h => by omega, List.nodup_nil⟩ (by exact vsub0) rfl (by (first | exact List.Sublist.refl _ | exact List.nil_sublist _ | exact List.Sublist.cons _ (List.Sublist.refl _) | exact List.Sublist.cons _ (List.Sublist.cons _ (List.Sublist.refl _)))) ?_
  rintro k ⟨hk, hrel⟩
  by_cases hlt : k < c.list.len
  · have hkl : k < c.list.els.length := by omega
    have hge := hg'.el hlt
    cases hok : entryOK c.list.els[k].c with
    | false =>
      have hv : ∀ w, Sat H w → Calls Tryz.prog 135 #[.agg (enc c.list.els[k]).toArray] w (Ret w (.bool false)) := fun w hs => by
        have := c_Entry22 c.list.els[k] H w hs hge
        rwa [hok] at this
      repeat (any_goals (first | refine T.seq ?_ | refine T.region ?_ | (apply T.regionD wide; rfl) | refine TL.nil ?_ | refine N.next ?_ | refine N.inBlock ?_ | refine N.exit_same ?_ | refine N.exit_then ?_ | refine N.ret_then ?_ | refine N.ret_block ?_ | (apply N.exit_other; rfl) | refine T.ret ?_ | refine T.skip ?_ | refine T.exit ?_ | refine T.block ?_ | (apply T.cond_true; rfl) | (apply T.cond_false; rfl) | (apply T.test; rfl; (exact visX); intro _; rotate_left; intro _; rotate_right) | (apply TL.skip; rfl; rfl; rfl) | (apply TL.skip_none; rfl; rfl) | (apply GT.skip; rfl; rfl; rfl; decide +kernel) | (apply GS.grow; rfl; rfl; (apply X.callR0 (f := 135) Tryz.call135; rfl; rfl; (exact fun _ hs => hv _ hs.sat)); intro _ _) | (apply TL.call0 (f := 135) Tryz.call135; rfl; rfl; rfl; (exact fun _ hs => hv _ hs.sat)) | (apply GT.call0 (f := 135) Tryz.call135; (iterate 5 rfl); (exact fun _ hs => hv _ hs.sat); decide +kernel) | (apply TL.val; rfl; rfl; (first | exact vpure | exact vread)) | (apply GT.pure; rfl; rfl; rfl; rfl; exact vpure; decide +kernel) | (apply GT.read; rfl; rfl; rfl; rfl; (first | exact vpure | exact vread); decide +kernel) | (apply GT.done; decide +kernel; apply N.ofQ) | (apply GT.adv; rfl) | (apply TL.x; rfl; rfl; (first | exact xgrow | exact xput); intro _ _) | (apply GS.grow; rfl; rfl; exact xgrow; intro _ _) | (apply GS.eff; rfl; decide +kernel; rfl; exact xput; intro _ _) | (apply TL.guard; rfl; rfl; rfl; (exact visX); intro _; rotate_left; intro _; rotate_right) | (apply GT.guard; rfl; rfl; rfl; rfl; (exact visX); intro _; rotate_left; intro _; rotate_right) | (apply GT.fork1; decide +kernel)))
      all_goals (try (exfalso; omega))
      all_goals (try (first | (apply N.ret_bool; rfl; (exact rvx)) | (apply N.ret_int; rfl; (exact rvx)) | (apply N.ret_val; rfl; (exact rvx))))
      exact cache_no hkl (.inl hok)
    | true =>
      have hv : ∀ w, Sat H w → Calls Tryz.prog 135 #[.agg (enc c.list.els[k]).toArray] w (Ret w (.bool true)) := fun w hs => by
        have := c_Entry22 c.list.els[k] H w hs hge
        rwa [hok] at this
      repeat (any_goals (first | refine T.seq ?_ | refine T.region ?_ | (apply T.regionD wide; rfl) | refine TL.nil ?_ | refine N.next ?_ | refine N.inBlock ?_ | refine N.exit_same ?_ | refine N.exit_then ?_ | refine N.ret_then ?_ | refine N.ret_block ?_ | (apply N.exit_other; rfl) | refine T.ret ?_ | refine T.skip ?_ | refine T.exit ?_ | refine T.block ?_ | (apply T.cond_true; rfl) | (apply T.cond_false; rfl) | (apply T.test; rfl; (exact visX); intro _; rotate_left; intro _; rotate_right) | (apply TL.skip; rfl; rfl; rfl) | (apply TL.skip_none; rfl; rfl) | (apply GT.skip; rfl; rfl; rfl; decide +kernel) | (apply GS.grow; rfl; rfl; (apply X.callR0 (f := 135) Tryz.call135; rfl; rfl; (exact fun _ hs => hv _ hs.sat)); intro _ _) | (apply TL.call0 (f := 135) Tryz.call135; rfl; rfl; rfl; (exact fun _ hs => hv _ hs.sat)) | (apply GT.call0 (f := 135) Tryz.call135; (iterate 5 rfl); (exact fun _ hs => hv _ hs.sat); decide +kernel) | (apply TL.val; rfl; rfl; (first | exact vpure | exact vread)) | (apply GT.pure; rfl; rfl; rfl; rfl; exact vpure; decide +kernel) | (apply GT.read; rfl; rfl; rfl; rfl; (first | exact vpure | exact vread); decide +kernel) | (apply GT.done; decide +kernel; apply N.ofQ) | (apply GT.adv; rfl) | (apply TL.x; rfl; rfl; (first | exact xgrow | exact xput); intro _ _) | (apply GS.grow; rfl; rfl; exact xgrow; intro _ _) | (apply GS.eff; rfl; decide +kernel; rfl; exact xput; intro _ _) | (apply TL.guard; rfl; rfl; rfl; (exact visX); intro _; rotate_left; intro _; rotate_right) | (apply GT.guard; rfl; rfl; rfl; rfl; (exact visX); intro _; rotate_left; intro _; rotate_right) | (apply GT.fork1; decide +kernel)))
      all_goals (try (exfalso; omega))
      refine T.loop (G := Nat) (fun j => [(1, .pointer (some ⟨b, 0, none⟩)), (3, intV k), (4, intV j)]) (fun _ => H) (fun _ => [.blk b 46 (enc c)]) (fun j => j ≤ k ∧ ∀ i (hi : i < c.list.els.length), i < j → alikeC c.list.els[i].c c.list.els[k].c = false) (fun j => k - j) 0 ⟨Nat.zero_le _, fun i _ h => by omega⟩ (by exact vsub0) rfl (by (first | exact List.Sublist.refl _ | exact List.nil_sublist _ | exact List.Sublist.cons _ (List.Sublist.refl _) | exact List.Sublist.cons _ (List.Sublist.cons _ (List.Sublist.refl _)))) ?_
      rintro j ⟨hj, hrj⟩
      by_cases hjk : j < k
      · have hjl : j < c.list.len := by omega
        repeat (any_goals (first | refine T.seq ?_ | refine T.region ?_ | (apply T.regionD wide; rfl) | refine TL.nil ?_ | refine N.next ?_ | refine N.inBlock ?_ | refine N.exit_same ?_ | refine N.exit_then ?_ | refine N.ret_then ?_ | refine N.ret_block ?_ | (apply N.exit_other; rfl) | refine T.ret ?_ | refine T.skip ?_ | refine T.exit ?_ | refine T.block ?_ | (apply T.cond_true; rfl) | (apply T.cond_false; rfl) | (apply T.test; rfl; (exact visX); intro _; rotate_left; intro _; rotate_right) | (apply TL.skip; rfl; rfl; rfl) | (apply TL.skip_none; rfl; rfl) | (apply GT.skip; rfl; rfl; rfl; decide +kernel) | (apply GS.grow; rfl; rfl; (apply X.callR0 (f := 136) Tryz.call136; rfl; rfl; (exact fun _ hs => c_Alike (c.list.els[j]'(by omega)) c.list.els[k] _ _ hs.sat)); intro _ _) | (apply TL.call0 (f := 136) Tryz.call136; rfl; rfl; rfl; (exact fun _ hs => c_Alike (c.list.els[j]'(by omega)) c.list.els[k] _ _ hs.sat)) | (apply GT.call0 (f := 136) Tryz.call136; (iterate 5 rfl); (exact fun _ hs => c_Alike (c.list.els[j]'(by omega)) c.list.els[k] _ _ hs.sat); decide +kernel) | (apply TL.val; rfl; rfl; (first | exact vpure | exact vread)) | (apply GT.pure; rfl; rfl; rfl; rfl; exact vpure; decide +kernel) | (apply GT.read; rfl; rfl; rfl; rfl; (first | exact vpure | exact vread); decide +kernel) | (apply GT.done; decide +kernel; apply N.ofQ) | (apply GT.adv; rfl) | (apply TL.x; rfl; rfl; (first | exact xgrow | exact xput); intro _ _) | (apply GS.grow; rfl; rfl; exact xgrow; intro _ _) | (apply GS.eff; rfl; decide +kernel; rfl; exact xput; intro _ _) | (apply TL.guard; rfl; rfl; rfl; (exact visX); intro _; rotate_left; intro _; rotate_right) | (apply GT.guard; rfl; rfl; rfl; rfl; (exact visX); intro _; rotate_left; intro _; rotate_right) | (apply GT.fork1; decide +kernel)))
        all_goals (try (exfalso; omega))
        all_goals (try (first | (apply N.ret_bool; rfl; (exact rvx)) | (apply N.ret_int; rfl; (exact rvx)) | (apply N.ret_val; rfl; (exact rvx))))
        all_goals first
          | exact cache_no hkl (.inr (keys_yes hkl hjk (by assumption)))
          | ((refine N.round (j + 1) ?_ ?_ ?_ ?_ ?_; rotate_left 2; (repeat (first | exact True.intro | refine ⟨rfl, ?_⟩ | refine Sub.int rfl (by omega) ?_)); rfl; (first | exact List.Sublist.refl _ | exact List.nil_sublist _ | exact List.Sublist.cons _ (List.Sublist.refl _) | exact List.Sublist.cons _ (List.Sublist.cons _ (List.Sublist.refl _))))
             · refine ⟨by omega, fun i hi hij => ?_⟩
               by_cases e : i = j
               · subst e; assumption
               · exact hrj i hi (by omega)
             · omega)
          | trace_state
      · repeat (any_goals (first | refine T.seq ?_ | refine T.region ?_ | (apply T.regionD wide; rfl) | refine TL.nil ?_ | refine N.next ?_ | refine N.inBlock ?_ | refine N.exit_same ?_ | refine N.exit_then ?_ | refine N.ret_then ?_ | refine N.ret_block ?_ | (apply N.exit_other; rfl) | refine T.ret ?_ | refine T.skip ?_ | refine T.exit ?_ | refine T.block ?_ | (apply T.cond_true; rfl) | (apply T.cond_false; rfl) | (apply T.test; rfl; (exact visX); intro _; rotate_left; intro _; rotate_right) | (apply TL.skip; rfl; rfl; rfl) | (apply TL.skip_none; rfl; rfl) | (apply GT.skip; rfl; rfl; rfl; decide +kernel) | (apply TL.val; rfl; rfl; (first | exact vpure | exact vread)) | (apply GT.pure; rfl; rfl; rfl; rfl; exact vpure; decide +kernel) | (apply GT.read; rfl; rfl; rfl; rfl; (first | exact vpure | exact vread); decide +kernel) | (apply GT.done; decide +kernel; apply N.ofQ) | (apply GT.adv; rfl) | (apply TL.x; rfl; rfl; (first | exact xgrow | exact xput); intro _ _) | (apply GS.grow; rfl; rfl; exact xgrow; intro _ _) | (apply GS.eff; rfl; decide +kernel; rfl; exact xput; intro _ _) | (apply TL.guard; rfl; rfl; rfl; (exact visX); intro _; rotate_left; intro _; rotate_right) | (apply GT.guard; rfl; rfl; rfl; rfl; (exact visX); intro _; rotate_left; intro _; rotate_right) | (apply GT.fork1; decide +kernel)))
        all_goals (try (exfalso; omega))
        (refine N.round (k + 1) ?_ ?_ ?_ ?_ ?_; rotate_left 2; (repeat (first | exact True.intro | refine ⟨rfl, ?_⟩ | refine Sub.int rfl (by omega) ?_)); rfl; (first | exact List.Sublist.refl _ | exact List.nil_sublist _ | exact List.Sublist.cons _ (List.Sublist.refl _) | exact List.Sublist.cons _ (List.Sublist.cons _ (List.Sublist.refl _))))
        · exact ⟨by omega, cacheTo_up hrel hkl hok (keys_no hkl fun i hi hik => hrj i hi (by omega))⟩
        · omega
  · repeat (any_goals (first | refine T.seq ?_ | refine T.region ?_ | (apply T.regionD wide; rfl) | refine TL.nil ?_ | refine N.next ?_ | refine N.inBlock ?_ | refine N.exit_same ?_ | refine N.exit_then ?_ | refine N.ret_then ?_ | refine N.ret_block ?_ | (apply N.exit_other; rfl) | refine T.ret ?_ | refine T.skip ?_ | refine T.exit ?_ | refine T.block ?_ | (apply T.cond_true; rfl) | (apply T.cond_false; rfl) | (apply T.test; rfl; (exact visX); intro _; rotate_left; intro _; rotate_right) | (apply TL.skip; rfl; rfl; rfl) | (apply TL.skip_none; rfl; rfl) | (apply GT.skip; rfl; rfl; rfl; decide +kernel) | (apply TL.val; rfl; rfl; (first | exact vpure | exact vread)) | (apply GT.pure; rfl; rfl; rfl; rfl; exact vpure; decide +kernel) | (apply GT.read; rfl; rfl; rfl; rfl; (first | exact vpure | exact vread); decide +kernel) | (apply GT.done; decide +kernel; apply N.ofQ) | (apply GT.adv; rfl) | (apply TL.x; rfl; rfl; (first | exact xgrow | exact xput); intro _ _) | (apply GS.grow; rfl; rfl; exact xgrow; intro _ _) | (apply GS.eff; rfl; decide +kernel; rfl; exact xput; intro _ _) | (apply TL.guard; rfl; rfl; rfl; (exact visX); intro _; rotate_left; intro _; rotate_right) | (apply GT.guard; rfl; rfl; rfl; rfl; (exact visX); intro _; rotate_left; intro _; rotate_right) | (apply GT.fork1; decide +kernel)))
    all_goals (try (exfalso; omega))
    all_goals (try (first | (apply N.ret_bool; rfl; (exact rvx)) | (apply N.ret_int; rfl; (exact rvx)) | (apply N.ret_val; rfl; (exact rvx))))
    have ht : CacheTo c.list.els c.list.els.length := cacheTo_le hrel (by omega)
    rw [Bool.eq_iff_iff, cacheOK_to, decide_eq_true_iff]
    exact ⟨fun h => ⟨by omega, ht⟩, fun h => by omega⟩
end Go.Proofs.YtogcofeencgipaaGreatDoor
