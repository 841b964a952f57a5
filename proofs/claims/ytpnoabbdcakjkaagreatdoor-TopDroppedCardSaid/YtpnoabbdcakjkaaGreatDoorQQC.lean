/- Walks: the rules of validate.Filter, but for referrals. -/
import Derived.Test.YtpnoabbdcakjkaaGreatDoorQQA
import Derived.Test.YtpnoabbdcakjkaaGreatDoorQTH
import Derived.Test.YtpnoabbdcakjkaaGreatDoorQTC
namespace Go.Proofs.YtpnoabbdcakjkaaGreatDoor
set_option linter.unusedVariables false
set_option linter.unusedSimpArgs false
open Go Go.RowKit
open Enc (enc)
set_option maxRecDepth 20000
section
variable {P : Program} {n : FK} {S : World → Prop} {env : List (Nat × Value)}
theorem V.buildArrQ [Tys P] {t e m : Nat} {parts : Array (Nat × Operand)} {k ke : TyK} {ps : List (Nat × Value)} {zs cs : List Value} (hk : tyk P t = some k) (hd : k.desc = .array m e) (hke : tyk P e = some ke)
    (hp : evp env parts.toList = some ps) (hz : k.zero.cells = zs.toArray) (hf : fillL (fun i => some (i * ke.size, ke.size)) zs ps = some cs) : V P n S env (.build t parts) (.agg cs.toArray) :=
  ⟨fun o a w ho hfr _ => by
    obtain ⟨d, hu, hf'⟩ := (tyk_ok hk).und
    rw [hd] at hf'
    simp only [TyD.fits] at hf'
    subst hf'
    have hparts : parts.map (fun (p : Nat × Operand) => (p.1, a.eval p.2)) = ps.toArray := by
      apply Array.toList_inj.1
      simpa using hfr.evp hp
    have hfill := fill_eq _ _ _ _ hf
    unfold execOp; rw [ho]
    simp only [hparts, Instr.build, Sem.run_bind, (tyk_ok hk).zeroRun w, Result.andThen_ok, run_underlying hu, (tyk_ok hke).sizeOf w, hz, hfill]
    rfl⟩
end
/-- A function that says which sets may be taken. -/
structure RuleV where
  v : Value
  p : SetC → Bool
def RuleGood (H : Hp) (r : RuleV) : Prop := ∃ F cap, r.v = .func (.func F) #[] cap ∧ (∀ (args : Array Value) (w : World), (callFunc F args).run Tryz.prog w = .ok (.enter F args) w) ∧ ∀ (x : RSet) (H' : Hp) (w : World), H.le H' → Sat H' w → Enc.good H' x → Calls Tryz.prog F (#[] ++ [Value.agg (enc x).toArray].toArray ++ cap) w (Ret w (.bool (r.p x.c)))
def deniedR (q : Question) (s : SetC) : Bool := decide (s.typ = 8) || (decide (s.typ = 4) && (underC q.name s.name).1)
def dataR (q : Question) (s : SetC) : Bool := decide (s.name = q.name) && decide (s.typ = q.typ)
def wildR (q : Question) (s : SetC) : Bool := decide (s.typ = 8) || (decide (s.typ = q.typ) && wildAboveC s.name q.name)
def aliasR (q : Question) (s : SetC) : Bool := decide (s.typ = 8) || (decide (s.typ = 3) && (decide (s.name = q.name) || wildAboveC s.name q.name))
def noneR (_ : SetC) : Bool := false
section
variable {q : Question} {b : Nat} {x : RSet} {H : Hp} {w : World}
theorem c_rule1 (hs : Sat H w) (hb : H.cells b 0 (enc q)) (hq : Enc.good H q) (hx : Enc.good H x) : Calls Tryz.prog 70 #[.agg (enc x).toArray, .pointer (some ⟨b, 0, none⟩)] w (Ret w (.bool (deniedR q x.c))) := by
  refine T.enter (vs := [.agg (enc x).toArray, .pointer (some ⟨b, 0, none⟩)]) (H := H) Tryz.func70 rfl rfl rfl hs ?_
  repeat (any_goals (first | refine T.seq ?_ | refine T.region ?_ | refine TL.nil ?_ | refine N.next ?_ | refine N.inBlock ?_ | refine N.exit_same ?_ | refine N.exit_then ?_ | refine N.ret_then ?_ | refine N.ret_block ?_ | (apply N.exit_other; rfl) | refine T.ret ?_ | refine T.skip ?_ | refine T.exit ?_ | refine T.block ?_ | (apply T.cond_true; rfl) | (apply T.cond_false; rfl) | (apply T.test; rfl; (exact isx); intro _; rotate_left; intro _; rotate_right) | (apply TL.skip; rfl; rfl; rfl) | (apply TL.skip_none; rfl; rfl) | (apply TL.val; rfl; rfl; (apply V.load_H; rfl; rfl; rfl; first | exact hb 0 _ rfl | exact hb 1 _ rfl)) | (apply TL.callE (f := 40) [strV q.name, strV x.name] Tryz.call40; (iterate 4 rfl); (exact fun _ hs => c_vunder q.name x.name _ _ hs.sat hq.1 hx.1)) | (apply TL.val; rfl; rfl; (first | exact vpure | exact vread)) | (apply TL.x; rfl; rfl; (first | exact xgrow | exact xput); intro _ _) | (apply TL.guard; rfl; rfl; rfl; (exact isx); intro _; rotate_left; intro _; rotate_right)))
  all_goals (try (first | (apply N.ret_bool; rfl; (exact rvx)) | (apply N.ret_int; rfl; (exact rvx)) | (apply N.ret_val; rfl; (exact rvx))))
  all_goals (show _ = (decide (x.typ = 8) || (decide (x.typ = 4) && (underC q.name x.name).1)); simp_all)
theorem c_rule2 (hs : Sat H w) (hb : H.cells b 0 (enc q)) (hq : Enc.good H q) (hx : Enc.good H x) : Calls Tryz.prog 71 #[.agg (enc x).toArray, .pointer (some ⟨b, 0, none⟩)] w (Ret w (.bool (dataR q x.c))) := by
  refine T.enter (vs := [.agg (enc x).toArray, .pointer (some ⟨b, 0, none⟩)]) (H := H) Tryz.func71 rfl rfl rfl hs ?_
  repeat (any_goals (first | refine T.seq ?_ | refine T.region ?_ | refine TL.nil ?_ | refine N.next ?_ | refine N.inBlock ?_ | refine N.exit_same ?_ | refine N.exit_then ?_ | refine N.ret_then ?_ | refine N.ret_block ?_ | (apply N.exit_other; rfl) | refine T.ret ?_ | refine T.skip ?_ | refine T.exit ?_ | refine T.block ?_ | (apply T.cond_true; rfl) | (apply T.cond_false; rfl) | (apply T.test; rfl; (exact isx); intro _; rotate_left; intro _; rotate_right) | (apply TL.skip; rfl; rfl; rfl) | (apply TL.skip_none; rfl; rfl) | (apply TL.val; rfl; rfl; (apply V.load_H; rfl; rfl; rfl; first | exact hb 0 _ rfl | exact hb 1 _ rfl)) | (apply TL.val; rfl; rfl; (first | exact vpure | exact vread)) | (apply TL.x; rfl; rfl; (first | exact xgrow | exact xput); intro _ _) | (apply TL.guard; rfl; rfl; rfl; (exact isx); intro _; rotate_left; intro _; rotate_right)))
  all_goals (try (first | (apply N.ret_bool; rfl; (exact rvx)) | (apply N.ret_int; rfl; (exact rvx)) | (apply N.ret_val; rfl; (exact rvx))))
  all_goals (show _ = (decide (x.name = q.name) && decide (x.typ = q.typ)); simp_all)
theorem c_rule3 (hs : Sat H w) (hb : H.cells b 0 (enc q)) (hq : Enc.good H q) (hx : Enc.good H x) : Calls Tryz.prog 72 #[.agg (enc x).toArray, .pointer (some ⟨b, 0, none⟩)] w (Ret w (.bool (wildR q x.c))) := by
  refine T.enter (vs := [.agg (enc x).toArray, .pointer (some ⟨b, 0, none⟩)]) (H := H) Tryz.func72 rfl rfl rfl hs ?_
  repeat (any_goals (first | refine T.seq ?_ | refine T.region ?_ | refine TL.nil ?_ | refine N.next ?_ | refine N.inBlock ?_ | refine N.exit_same ?_ | refine N.exit_then ?_ | refine N.ret_then ?_ | refine N.ret_block ?_ | (apply N.exit_other; rfl) | refine T.ret ?_ | refine T.skip ?_ | refine T.exit ?_ | refine T.block ?_ | (apply T.cond_true; rfl) | (apply T.cond_false; rfl) | (apply T.test; rfl; (exact isx); intro _; rotate_left; intro _; rotate_right) | (apply TL.skip; rfl; rfl; rfl) | (apply TL.skip_none; rfl; rfl) | (apply TL.val; rfl; rfl; (apply V.load_H; rfl; rfl; rfl; first | exact hb 0 _ rfl | exact hb 1 _ rfl)) | (apply TL.callE (f := 73) [strV x.name, strV q.name] Tryz.call73; (iterate 4 rfl); (exact fun _ hs => c_wildAbove x.name q.name _ _ hs.sat hx.1 hq.1)) | (apply TL.val; rfl; rfl; (first | exact vpure | exact vread)) | (apply TL.x; rfl; rfl; (first | exact xgrow | exact xput); intro _ _) | (apply TL.guard; rfl; rfl; rfl; (exact isx); intro _; rotate_left; intro _; rotate_right)))
  all_goals (try (first | (apply N.ret_bool; rfl; (exact rvx)) | (apply N.ret_int; rfl; (exact rvx)) | (apply N.ret_val; rfl; (exact rvx))))
  all_goals (show _ = (decide (x.typ = 8) || (decide (x.typ = q.typ) && wildAboveC x.name q.name)); simp_all)
theorem c_rule4 (hs : Sat H w) (hb : H.cells b 0 (enc q)) (hq : Enc.good H q) (hx : Enc.good H x) : Calls Tryz.prog 74 #[.agg (enc x).toArray, .pointer (some ⟨b, 0, none⟩)] w (Ret w (.bool (aliasR q x.c))) := by
  refine T.enter (vs := [.agg (enc x).toArray, .pointer (some ⟨b, 0, none⟩)]) (H := H) Tryz.func74 rfl rfl rfl hs ?_
  repeat (any_goals (first | refine T.seq ?_ | refine T.region ?_ | refine TL.nil ?_ | refine N.next ?_ | refine N.inBlock ?_ | refine N.exit_same ?_ | refine N.exit_then ?_ | refine N.ret_then ?_ | refine N.ret_block ?_ | (apply N.exit_other; rfl) | refine T.ret ?_ | refine T.skip ?_ | refine T.exit ?_ | refine T.block ?_ | (apply T.cond_true; rfl) | (apply T.cond_false; rfl) | (apply T.test; rfl; (exact isx); intro _; rotate_left; intro _; rotate_right) | (apply TL.skip; rfl; rfl; rfl) | (apply TL.skip_none; rfl; rfl) | (apply TL.val; rfl; rfl; (apply V.load_H; rfl; rfl; rfl; first | exact hb 0 _ rfl | exact hb 1 _ rfl)) | (apply TL.callE (f := 73) [strV x.name, strV q.name] Tryz.call73; (iterate 4 rfl); (exact fun _ hs => c_wildAbove x.name q.name _ _ hs.sat hx.1 hq.1)) | (apply TL.val; rfl; rfl; (first | exact vpure | exact vread)) | (apply TL.x; rfl; rfl; (first | exact xgrow | exact xput); intro _ _) | (apply TL.guard; rfl; rfl; rfl; (exact isx); intro _; rotate_left; intro _; rotate_right)))
  all_goals (try (first | (apply N.ret_bool; rfl; (exact rvx)) | (apply N.ret_int; rfl; (exact rvx)) | (apply N.ret_val; rfl; (exact rvx))))
  all_goals (show _ = (decide (x.typ = 8) || (decide (x.typ = 3) && (decide (x.name = q.name) || wildAboveC x.name q.name))); simp_all)
theorem c_rule5 (hs : Sat H w) : Calls Tryz.prog 76 #[.agg (enc x).toArray] w (Ret w (.bool false)) := by
  refine T.enter (vs := [.agg (enc x).toArray]) (H := H) Tryz.func76 rfl rfl rfl hs ?_
  repeat (any_goals (first | refine T.seq ?_ | refine T.region ?_ | refine TL.nil ?_ | refine N.next ?_ | refine N.inBlock ?_ | refine N.exit_same ?_ | refine N.exit_then ?_ | refine N.ret_then ?_ | refine N.ret_block ?_ | (apply N.exit_other; rfl) | refine T.ret ?_ | refine T.skip ?_ | refine T.exit ?_ | refine T.block ?_ | (apply T.cond_true; rfl) | (apply T.cond_false; rfl) | (apply T.test; rfl; (exact isx); intro _; rotate_left; intro _; rotate_right) | (apply TL.skip; rfl; rfl; rfl) | (apply TL.skip_none; rfl; rfl) | (apply TL.val; rfl; rfl; (first | exact vpure | exact vread)) | (apply TL.x; rfl; rfl; (first | exact xgrow | exact xput); intro _ _) | (apply TL.guard; rfl; rfl; rfl; (exact isx); intro _; rotate_left; intro _; rotate_right)))
  exact N.ret_bool rfl (by (exact rvx)) rfl
theorem c_ref1 (hs : Sat H w) : Calls Tryz.prog 114 #[.agg (enc x).toArray] w (Ret w (.bool false)) := by
  refine T.enter (vs := [.agg (enc x).toArray]) (H := H) Tryz.func114 rfl rfl rfl hs ?_
  repeat (any_goals (first | refine T.seq ?_ | refine T.region ?_ | refine TL.nil ?_ | refine N.next ?_ | refine N.inBlock ?_ | refine N.exit_same ?_ | refine N.exit_then ?_ | refine N.ret_then ?_ | refine N.ret_block ?_ | (apply N.exit_other; rfl) | refine T.ret ?_ | refine T.skip ?_ | refine T.exit ?_ | refine T.block ?_ | (apply T.cond_true; rfl) | (apply T.cond_false; rfl) | (apply T.test; rfl; (exact isx); intro _; rotate_left; intro _; rotate_right) | (apply TL.skip; rfl; rfl; rfl) | (apply TL.skip_none; rfl; rfl) | (apply TL.val; rfl; rfl; (first | exact vpure | exact vread)) | (apply TL.x; rfl; rfl; (first | exact xgrow | exact xput); intro _ _) | (apply TL.guard; rfl; rfl; rfl; (exact isx); intro _; rotate_left; intro _; rotate_right)))
  exact N.ret_bool rfl (by (exact rvx)) rfl
end
/-- The rule of a kind of answers that is no referral. -/
def ruleC (q : Question) (k : Int) : SetC → Bool := if k = 1 then dataR q else if k = 2 then wildR q else if k = 3 then aliasR q else if k = 5 ∨ k = 6 then deniedR q else noneR
theorem cap1 {b : Nat} {x : RSet} : (#[] ++ [Value.agg (enc x).toArray].toArray ++ #[Value.pointer (some ⟨b, 0, none⟩)] : Array Value) = #[.agg (enc x).toArray, .pointer (some ⟨b, 0, none⟩)] := by simp
theorem cap0 {x : RSet} : (#[] ++ [Value.agg (enc x).toArray].toArray ++ #[] : Array Value) = #[.agg (enc x).toArray] := by simp
end Go.Proofs.YtpnoabbdcakjkaaGreatDoor
namespace Go.Proofs.YtpnoabbdcakjkaaGreatDoor
set_option linter.unusedVariables false
set_option linter.unusedSimpArgs false
open Go Go.RowKit
open Enc (enc)
set_option maxRecDepth 20000
theorem answerOK_short {a : Answer} (h : answerOK a.c = true) : (1 ≤ a.kind ∧ a.kind ≤ 7) ∧ a.sets.els.length ≤ 40 ∧ ∀ x ∈ a.sets.els, setOK x.set.c = true ∧ x.set.data.els.length ≤ 8 ∧ x.sigs.els.length ≤ 6 := by
  unfold answerOK at h
  simp only [Bool.and_eq_true, decide_eq_true_eq, List.all_eq_true] at h
  obtain ⟨⟨⟨h1, h2⟩, h3⟩, _⟩ := h
  refine ⟨h1, by rw [← List.length_map Signed.c]; exact h2, fun x hx => ?_⟩
  have h5 := h3 _ (List.mem_map_of_mem hx)
  unfold signedOK at h5
  simp only [Bool.and_eq_true, decide_eq_true_eq] at h5
  exact ⟨h5.1.2, (setOK_short h5.1.2).data, h5.1.1⟩
theorem filter_upQ {α : Type} {p : α → Bool} {l : List α} {k : Nat} {x : α} (h : l[k]? = some x) : (l.take (k + 1)).filter p = (l.take k).filter p ++ if p x then [x] else [] := by
  rw [List.take_add_one, h, List.filter_append]
  simp only [Option.toList_some]
  cases hp : p x <;> simp [hp]
theorem find_noQ {α : Type} {p : α → Bool} {l : List α} (h : ∀ x ∈ l, p x = false) : l.find? p = none :=
  List.find?_eq_none.2 fun x hx => by rw [h x hx]; decide
theorem St.frzAnyU {w0 w : World} {H0 H : Hp} {b : Nat} {o : Obj} {L : List Loc} (hs : St w0 H0 H (.any b o :: L) w) : ∃ H' : Hp, H' b = some o ∧ H.le H' ∧ St w0 H0 H' L w :=
  ⟨H.put b o, by unfold Hp.put; rw [if_pos rfl], Hp.put_le H o (hs.out _ (List.Mem.head _) b rfl), hs.freeze rfl (hs.ok _ (List.Mem.head _)).2⟩
end Go.Proofs.YtpnoabbdcakjkaaGreatDoor
