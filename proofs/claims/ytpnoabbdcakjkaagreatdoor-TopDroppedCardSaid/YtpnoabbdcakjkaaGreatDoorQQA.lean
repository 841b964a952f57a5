/- Walks: what of the cache can be used, one entry after the other. -/
import Derived.Test.YtpnoabbdcakjkaaGreatDoorQNA
import Derived.Test.YtpnoabbdcakjkaaGreatDoorQNF
import Derived.Test.YtpnoabbdcakjkaaGreatDoorQEngC
import Derived.Test.YtpnoabbdcakjkaaGreatDoorQEngN
import Derived.Test.YtpnoabbdcakjkaaGreatDoorQWF
import Derived.Test.YtpnoabbdcakjkaaGreatDoorQWH
import Derived.Test.YtpnoabbdcakjkaaGreatDoorQWJ
import Derived.Test.YtpnoabbdcakjkaaGreatDoorQWL
namespace Go.Proofs.YtpnoabbdcakjkaaGreatDoor
set_option linter.unusedVariables false
set_option linter.unusedSimpArgs false
open Go Go.RowKit
open Enc (enc)
set_option maxRecDepth 20000

end Go.Proofs.YtpnoabbdcakjkaaGreatDoor
namespace Go.Proofs.YtpnoabbdcakjkaaGreatDoor
set_option linter.unusedVariables false
set_option linter.unusedSimpArgs false
open Go Go.RowKit
open Enc (enc)
set_option maxRecDepth 20000

section
variable {P : Program} {w0 : World} {H0 H : Hp} {env : List (Nat × Value)} {L : List Loc}
/-- One round whose assignment makes a block. -/
theorem yieldAt_ofG {G : Type} {m : Nat} {fn : FuncId} {a : Act} {ps : Array Tmp} {assign body : Code} {b i j : Nat} {vs : Array Value} {w : World} {R : Ending → World → Prop} (E : G → List (Nat × Value)) (LL : G → List Loc) (hs : St w0 H0 H L w) (hi : L[i]? = some (.any (b + 1) (.loop (recd fn a.tmps ps assign body b .ready none)))) (hj : ∀ g, (LL g)[j]? = some (.any (b + 1) (.loop (recd fn a.tmps ps assign body b .ready none)))) (hsz : vs.size = ps.size)
    (env₀ : List (Nat × Value)) (hE : ∀ tmps : Array Value, tmps = (ps.zip vs).foldl (fun t (p, v) => t.setIfInBounds p v) a.tmps → Fr ⟨m, [], some (b + 1)⟩ env₀ { tmps := tmps, defers := [] })
    (hassign : T P ⟨m, [], some (b + 1)⟩ w0 H0 assign (Exit.then (fun a w => ∃ g, Fr ⟨m, [], some (b + 1)⟩ (E g) a ∧ St w0 H0 H (LL g) w) (fun _ _ _ => False)) env₀ H L)
    (hbody : ∀ g, T P ⟨m, [], some (b + 1)⟩ w0 H0 body (roundPost P (b + 1) R) (E g) H ((LL g).set j (.any (b + 1) (.loop (recd fn a.tmps ps assign body b .busy none))))) : YieldAt (FW none) 0 P (b + 1) vs w R := by
  have hrec := (hs.ok _ (List.mem_of_getElem? hi)).2
  have hy := run_yield (P := P) (args := vs) hrec (by simpa [recd] using hsz)
  refine ⟨fn, _, assign, body, hy, roundIn_of_wpIn trivial (wpIn_mono (hassign.out _ w (hE _ rfl) hs) ?_)⟩
  rintro e a₁ w₁ hq
  cases e with
  | normal =>
    obtain ⟨g, hf1, hs1⟩ := hq
    have hrec1 := (hs1.ok _ (List.mem_of_getElem? (hj g))).2
    refine ⟨_, run_beginRound hrec1 rfl, (hbody g).out _ _ hf1 ?_⟩
    exact hs1.putObj (.loop (recd fn a.tmps ps assign body b .busy none)) (hj g)
  | exit id => exact hq
  | goto l => exact hq
  | ret => exact hq
  | panic c => exact hq
  | outgrown => exact hq
theorem N.bothG {G : Type} {kk : FK} (g : G) {E : G → List (Nat × Value)} {LL : G → List Loc} {Q' : Exit → Act → World → Prop} (h : Sub (E g) env) (hl : List.Sublist (LL g) L) : N kk w0 H0 (Exit.then (fun a w => ∃ g, Fr kk (E g) a ∧ St w0 H0 H (LL g) w) Q') .normal env H L := ⟨fun _ _ hf hs => ⟨g, hf.sub h, hs.sub hl⟩⟩
end
end Go.Proofs.YtpnoabbdcakjkaaGreatDoor
namespace Go.Proofs.YtpnoabbdcakjkaaGreatDoor
set_option linter.unusedVariables false
set_option linter.unusedSimpArgs false
open Go Go.RowKit
open Enc (enc)
set_option maxRecDepth 20000

end Go.Proofs.YtpnoabbdcakjkaaGreatDoor
namespace Go.Proofs.YtpnoabbdcakjkaaGreatDoor
set_option linter.unusedVariables false
set_option linter.unusedSimpArgs false
open Go Go.RowKit
open Enc (enc)
set_option maxRecDepth 20000

/-- A set of an address. -/
def addrS (name : Bytes) (life n : Int) : SignedC := ⟨⟨name, 1, life, [⟨[], n, 0⟩]⟩, []⟩
/-- A set, put at 10 into an empty cache, can be used at a time. -/
def usableL (s : SignedC) (now : Int) : Bool := decide ((putC [] s [120] 10).2 = 0) && decide ((getC (putC [] s [120] 10).1 ⟨s.set.name, s.set.typ⟩ now).2.2 = 0) && (getC (putC [] s [120] 10).1 ⟨s.set.name, s.set.typ⟩ now).2.1
end Go.Proofs.YtpnoabbdcakjkaaGreatDoor
namespace Go.Proofs.YtpnoabbdcakjkaaGreatDoor
set_option linter.unusedVariables false
set_option linter.unusedSimpArgs false
open Go Go.RowKit
open Enc (enc)
set_option maxRecDepth 20000

def S5 : SignedC := addrS [97, 46, 120] 5 1
theorem u1 : usableL S5 10 = true := by decide +kernel
theorem u2 : usableL S5 14 = true := by decide +kernel
theorem hnil : cacheOK [entryNil] = false := by decide +kernel
end Go.Proofs.YtpnoabbdcakjkaaGreatDoor
namespace Go.Proofs.YtpnoabbdcakjkaaGreatDoor
set_option linter.unusedVariables false
set_option linter.unusedSimpArgs false
open Go Go.RowKit
set_option maxRecDepth 20000

section
variable {P : Program} {n : FK} {S : World → Prop} {env : List (Nat × Value)}
theorem V.remE {t u : TypeId} {x y : Operand} {i j m : Int} (hm : i.tmod j = m) (hx : ev env x = some (intV i)) (hy : ev env y = some (intV j)) (hj : 0 < j) : V P n S env (.binOp .rem t x y u) (intV m) := by
  subst hm
  exact V.rem hx hy hj
end
end Go.Proofs.YtpnoabbdcakjkaaGreatDoor
namespace Go.Proofs.YtpnoabbdcakjkaaGreatDoor
set_option linter.unusedVariables false
set_option linter.unusedSimpArgs false
open Go Go.RowKit
open Enc (enc)
set_option maxRecDepth 20000
def belowV (s z : Bytes) : Bool := decide (s ≠ z) && (underC s z).1
def zoneV (z : Bytes) : Bool := nameOK z && !decide (z = [42]) && !decide (z.take 2 = [42, 46])
def wildAboveC (wild s : Bytes) : Bool := if wild = [42] then decide (s ≠ [46]) else decide (wild.take 2 = [42, 46]) && belowV s (wild.drop 2)
theorem underC_ok (s z : Bytes) : ((underC s z).1 && decide ((underC s z).2 = 0)) = (underC s z).1 := by
  unfold underC
  split <;> simp
theorem c_vunder (s z : Bytes) (H : Hp) (w : World) (hs : Sat H w) (hl : LenOk s) (hz : LenOk z) : Calls Tryz.prog 40 #[strV s, strV z] w (Ret w (.bool (underC s z).1)) := by
  refine T.enter (vs := [strV s, strV z]) (H := H) Tryz.func40 rfl rfl rfl hs ?_
  have hu := underC_ok s z
  repeat (any_goals (first | refine T.seq ?_ | refine T.region ?_ | refine TL.nil ?_ | refine N.next ?_ | refine N.inBlock ?_ | refine N.exit_same ?_ | refine N.exit_then ?_ | refine N.ret_then ?_ | refine N.ret_block ?_ | (apply N.exit_other; rfl) | refine T.ret ?_ | refine T.skip ?_ | refine T.exit ?_ | refine T.block ?_ | (apply T.cond_true; rfl) | (apply T.cond_false; rfl) | (apply T.test; rfl; (exact isx); intro _; rotate_left; intro _; rotate_right) | (apply TL.skip; rfl; rfl; rfl) | (apply TL.skip_none; rfl; rfl) | (apply TL.callE (f := 69) [strV s, strV z] Tryz.call69; (iterate 4 rfl); (exact fun _ hs => c_Under s z _ _ hs.sat hl hz)) | (apply TL.val; rfl; rfl; (first | exact vpure | exact vread)) | (apply TL.x; rfl; rfl; (first | exact xgrow | exact xput); intro _ _) | (apply TL.guard; rfl; rfl; rfl; (exact isx); intro _; rotate_left; intro _; rotate_right)))
  all_goals (try (first | (apply N.ret_bool; rfl; (exact rvx)) | (apply N.ret_int; rfl; (exact rvx)) | (apply N.ret_val; rfl; (exact rvx))))
  all_goals simp_all
theorem c_vbelow (s z : Bytes) (H : Hp) (w : World) (hs : Sat H w) (hl : LenOk s) (hz : LenOk z) : Calls Tryz.prog 113 #[strV s, strV z] w (Ret w (.bool (belowV s z))) := by
  refine T.enter (vs := [strV s, strV z]) (H := H) Tryz.func113 rfl rfl rfl hs ?_
  repeat (any_goals (first | refine T.seq ?_ | refine T.region ?_ | refine TL.nil ?_ | refine N.next ?_ | refine N.inBlock ?_ | refine N.exit_same ?_ | refine N.exit_then ?_ | refine N.ret_then ?_ | refine N.ret_block ?_ | (apply N.exit_other; rfl) | refine T.ret ?_ | refine T.skip ?_ | refine T.exit ?_ | refine T.block ?_ | (apply T.cond_true; rfl) | (apply T.cond_false; rfl) | (apply T.test; rfl; (exact isx); intro _; rotate_left; intro _; rotate_right) | (apply TL.skip; rfl; rfl; rfl) | (apply TL.skip_none; rfl; rfl) | (apply TL.callE (f := 40) [strV s, strV z] Tryz.call40; (iterate 4 rfl); (exact fun _ hs => c_vunder s z _ _ hs.sat hl hz)) | (apply TL.val; rfl; rfl; (first | exact vpure | exact vread)) | (apply TL.x; rfl; rfl; (first | exact xgrow | exact xput); intro _ _) | (apply TL.guard; rfl; rfl; rfl; (exact isx); intro _; rotate_left; intro _; rotate_right)))
  all_goals (try (first | (apply N.ret_bool; rfl; (exact rvx)) | (apply N.ret_int; rfl; (exact rvx)) | (apply N.ret_val; rfl; (exact rvx))))
  all_goals (unfold belowV; simp_all)
theorem c_vzoneOK (z : Bytes) (H : Hp) (w : World) (hs : Sat H w) (hl : LenOk z) : Calls Tryz.prog 37 #[strV z] w (Ret w (.bool (zoneV z))) := by
  refine T.enter (vs := [strV z]) (H := H) Tryz.func37 rfl rfl rfl hs ?_
  repeat (any_goals (first | refine T.seq ?_ | refine T.region ?_ | refine TL.nil ?_ | refine N.next ?_ | refine N.inBlock ?_ | refine N.exit_same ?_ | refine N.exit_then ?_ | refine N.ret_then ?_ | refine N.ret_block ?_ | (apply N.exit_other; rfl) | refine T.ret ?_ | refine T.skip ?_ | refine T.exit ?_ | refine T.block ?_ | (apply T.cond_true; rfl) | (apply T.cond_false; rfl) | (apply T.test; rfl; (exact isx); intro _; rotate_left; intro _; rotate_right) | (apply TL.skip; rfl; rfl; rfl) | (apply TL.skip_none; rfl; rfl) | (apply TL.callE (f := 54) [strV z] Tryz.call54; (iterate 4 rfl); (exact fun _ hs => c_nameValid z _ _ hs.sat hl)) | (apply TL.callE (f := 68) [strV z, strV [42, 46]] Tryz.call68; (iterate 4 rfl); (exact fun _ hs => c_HasPrefix z [42, 46] _ _ hs.sat hl (by show LenOk [42, 46]; decide))) | (apply TL.val; rfl; rfl; (first | exact vpure | exact vread)) | (apply TL.x; rfl; rfl; (first | exact xgrow | exact xput); intro _ _) | (apply TL.guard; rfl; rfl; rfl; (exact isx); intro _; rotate_left; intro _; rotate_right)))
  all_goals (try (first | (apply N.ret_bool; rfl; (exact rvx)) | (apply N.ret_int; rfl; (exact rvx)) | (apply N.ret_val; rfl; (exact rvx))))
  all_goals (unfold zoneV; simp_all)
theorem c_vquestion (q : Question) (H : Hp) (w : World) (hs : Sat H w) (hg : Enc.good H q) : Calls Tryz.prog 38 #[.agg (enc q).toArray] w (Ret w (.bool (questionOK q))) := by
  refine T.enter (vs := [.agg (enc q).toArray]) (H := H) Tryz.func38 rfl rfl rfl hs ?_
  repeat (any_goals (first | refine T.seq ?_ | refine T.region ?_ | refine TL.nil ?_ | refine N.next ?_ | refine N.inBlock ?_ | refine N.exit_same ?_ | refine N.exit_then ?_ | refine N.ret_then ?_ | refine N.ret_block ?_ | (apply N.exit_other; rfl) | refine T.ret ?_ | refine T.skip ?_ | refine T.exit ?_ | refine T.block ?_ | (apply T.cond_true; rfl) | (apply T.cond_false; rfl) | (apply T.test; rfl; (exact isx); intro _; rotate_left; intro _; rotate_right) | (apply TL.skip; rfl; rfl; rfl) | (apply TL.skip_none; rfl; rfl) | (apply TL.call0 (f := 54) Tryz.call54; rfl; rfl; rfl; (exact fun _ hs => c_nameValid _ _ _ hs.sat hg.1)) | (apply TL.val; rfl; rfl; (first | exact vpure | exact vread)) | (apply TL.x; rfl; rfl; (first | exact xgrow | exact xput); intro _ _) | (apply TL.guard; rfl; rfl; rfl; (exact isx); intro _; rotate_left; intro _; rotate_right)))
  all_goals (try (first | (apply N.ret_bool; rfl; (exact rvx)) | (apply N.ret_int; rfl; (exact rvx)) | (apply N.ret_val; rfl; (exact rvx))))
  all_goals (unfold questionOK; simp [*])
def ansMsg (q : Question) (a : Answer) : Msg := ⟨2, 0, 1, 1, q, a⟩
theorem ansMsg_good {H : Hp} {q : Question} {a : Answer} (hq : Enc.good H q) (ha : Enc.good H a) : Enc.good H (ansMsg q a) := ⟨by show I64 2; decide, by show I64 0; decide, by show I64 1; decide, by show I64 1; decide, hq, ha⟩
theorem ansMsg_ok (q : Question) (a : Answer) : msgOK (ansMsg q a).c = (questionOK q && answerOK a.c) := by
  show (decide ((0 : Int) ≤ 0 ∧ (0 : Int) ≤ 65535) && decide ((1 : Int) ≤ 1 ∧ (1 : Int) ≤ 1000000) && decide ((1 : Int) ≤ 1 ∧ (1 : Int) ≤ 1000000) && questionOK q && (if (2 : Int) = 1 then _ else decide ((2 : Int) = 2) && answerOK a.c)) = _
  simp
theorem qR_good (H : Hp) : Enc.good H (⟨[46], 4⟩ : Question) := ⟨by show LenOk [46]; decide, by show I64 4; decide⟩
theorem c_vanswer (a : Answer) (H : Hp) (w : World) (hs : Sat H w) (hR : Rules H) (ha : Enc.good H a) : Calls Tryz.prog 39 #[.agg (enc a).toArray] w (Ret w (.bool (answerOK a.c))) := by
  have e : msgOK (ansMsg ⟨[46], 4⟩ a).c = answerOK a.c := by
    rw [ansMsg_ok, show questionOK ⟨[46], 4⟩ = true by decide +kernel, Bool.true_and]
  rw [← e]
  refine T.enter (vs := [.agg (enc a).toArray]) (H := H) Tryz.func39 rfl rfl rfl hs ?_
  repeat (any_goals (first | refine T.seq ?_ | refine T.region ?_ | refine TL.nil ?_ | refine N.next ?_ | refine N.inBlock ?_ | refine N.exit_same ?_ | refine N.exit_then ?_ | refine N.ret_then ?_ | refine N.ret_block ?_ | (apply N.exit_other; rfl) | refine T.ret ?_ | refine T.skip ?_ | refine T.exit ?_ | refine T.block ?_ | (apply T.cond_true; rfl) | (apply T.cond_false; rfl) | (apply T.test; rfl; (exact isx); intro _; rotate_left; intro _; rotate_right) | (apply TL.skip; rfl; rfl; rfl) | (apply TL.skip_none; rfl; rfl) | (apply TL.val; rfl; rfl; (apply V.build; (iterate 6 rfl))) | (apply TL.x; rfl; rfl; (apply X.storeTo 0 (enc (⟨[46], 4⟩ : Question)); (iterate 10 rfl)); intro _ _) | (apply TL.callE (f := 27) [.agg (enc (ansMsg ⟨[46], 4⟩ a)).toArray] Tryz.call27; (iterate 4 rfl); (exact fun _ hs => c_packetValid (ansMsg ⟨[46], 4⟩ a) _ _ hs.sat hR (ansMsg_good (qR_good _) ha))) | (apply TL.val; rfl; rfl; (first | exact vpure | exact vread)) | (apply TL.x; rfl; rfl; (first | exact xgrow | exact xput); intro _ _) | (apply TL.guard; rfl; rfl; rfl; (exact isx); intro _; rotate_left; intro _; rotate_right)))
  all_goals (try (first | (apply N.ret_bool; rfl; (exact rvx)) | (apply N.ret_int; rfl; (exact rvx)) | (apply N.ret_val; rfl; (exact rvx))))
  rfl
theorem c_vcloned (s : Signed) (H : Hp) (w : World) (hs : Sat H w) (hg : Enc.good H s) (h1 : s.set.data.len ≤ 1000) (h2 : s.sigs.len ≤ 1000) : Calls Tryz.prog 42 #[.agg (enc s).toArray] w (RetF w H (fun p : Hp × Signed => p.2.c = s.c ∧ Enc.good p.1 p.2) (fun p => .agg (enc p.2).toArray) (fun p => p.1)) := by
  refine T.enter (vs := [.agg (enc s).toArray]) (H := H) Tryz.func42 rfl rfl rfl hs ?_
  repeat (any_goals (first | refine T.seq ?_ | refine T.region ?_ | refine TL.nil ?_ | refine N.next ?_ | refine N.inBlock ?_ | refine N.exit_same ?_ | refine N.exit_then ?_ | refine N.ret_then ?_ | refine N.ret_block ?_ | (apply N.exit_other; rfl) | refine T.ret ?_ | refine T.skip ?_ | refine T.exit ?_ | refine T.block ?_ | (apply T.cond_true; rfl) | (apply T.cond_false; rfl) | (apply T.test; rfl; (exact isx); intro _; rotate_left; intro _; rotate_right) | (apply TL.skip; rfl; rfl; rfl) | (apply TL.skip_none; rfl; rfl) | (apply TL.x; rfl; rfl; (apply X.callFE (f := 61) [s.set.data.v] Tryz.call61; rfl; rfl; rfl; exact (fun _ hs => c_CloneDatum s.set.data _ _ hs.sat hg.1.2.2.2 h1)); intro p1 hp1; have hg2 := Enc.mono hp1.2 hg) | (apply TL.x; rfl; rfl; (apply X.callFE (f := 62) [s.sigs.v] Tryz.call62; rfl; rfl; rfl; exact (fun _ hs => c_CloneSig s.sigs _ _ hs.sat hg2.2 h2)); intro p2 hp2) | (apply TL.x; rfl; rfl; (apply X.storeTo 1 (enc (⟨⟨s.set.name, s.set.typ, s.set.life, p1.2⟩, s.sigs⟩ : Signed)); (iterate 10 rfl)); intro _ _) | (apply TL.x; rfl; rfl; (apply X.storeTo 1 (enc (⟨⟨s.set.name, s.set.typ, s.set.life, p1.2⟩, p2.2⟩ : Signed)); (iterate 10 rfl)); intro _ _) | (apply TL.x; rfl; rfl; (apply X.storeTo 0 (enc (⟨⟨s.set.name, s.set.typ, s.set.life, p1.2⟩, p2.2⟩ : Signed)); (iterate 10 rfl)); intro _ _) | (apply TL.val; rfl; rfl; (first | exact vpure | exact vread)) | (apply TL.x; rfl; rfl; (first | exact xgrow | exact xput); intro _ _) | (apply TL.guard; rfl; rfl; rfl; (exact isx); intro _; rotate_left; intro _; rotate_right)))
  apply N.ret1; rfl; (exact rvx)
  intro w1 hst
  obtain ⟨⟨a1, a2⟩, a3⟩ := hp1
  obtain ⟨⟨b1, b2⟩, b3⟩ := hp2
  refine ⟨(p2.1, ⟨⟨s.set.name, s.set.typ, s.set.life, p1.2⟩, p2.2⟩), ⟨?_, ?_⟩, rfl, hst.fresh⟩
  · unfold Signed.c RSet.c
    simp only [a1, b1]
  · exact ⟨⟨hg.1.1, hg.1.2.1, hg.1.2.2.1, a2.mono b3⟩, b2⟩
theorem c_stringsCut0 (l p : Bytes) (H : Hp) (w : World) (hs : Sat H w) (hl : LenOk l) (hp : LenOk p) : Calls Tryz.prog 151 #[strV l, strV p] w (Ret w (.tuple #[strV (if l.take p.length = p then l.drop p.length else l), .bool (decide (l.take p.length = p))])) := by
  have hl' : l.length ≤ 9223372036854775807 := hl
  have hp' : p.length ≤ 9223372036854775807 := hp
  refine T.enter (vs := [strV l, strV p]) (H := H) Tryz.func151 rfl rfl rfl hs ?_
  by_cases h : l.take p.length = p
  · have hpl : p.length ≤ l.length := by
      have := congrArg List.length h
      rw [List.length_take] at this
      omega
    repeat (any_goals (first | refine T.seq ?_ | refine T.region ?_ | refine TL.nil ?_ | refine N.next ?_ | refine N.inBlock ?_ | refine N.exit_same ?_ | refine N.exit_then ?_ | refine N.ret_then ?_ | refine N.ret_block ?_ | (apply N.exit_other; rfl) | refine T.ret ?_ | refine T.skip ?_ | refine T.exit ?_ | refine T.block ?_ | (apply T.cond_true; rfl) | (apply T.cond_false; rfl) | (apply T.test; rfl; (exact isx); intro _; rotate_left; intro _; rotate_right) | (apply TL.skip; rfl; rfl; rfl) | (apply TL.skip_none; rfl; rfl) | (apply TL.callE (f := 110) [strV l, strV p] Tryz.call110; (iterate 4 rfl); (exact fun _ hs => c_HasPrefix0 _ _ _ _ hs.sat hl hp)) | (apply TL.val; rfl; rfl; (first | exact vpure | exact vread)) | (apply TL.x; rfl; rfl; (first | exact xgrow | exact xput); intro _ _) | (apply TL.guard; rfl; rfl; rfl; (exact isx); intro _; rotate_left; intro _; rotate_right)))
    all_goals (try contradiction)
    rw [if_pos h, decide_eq_true h]
    exact N.ret_two rfl (by (exact rvx)) (by (exact rvx)) (by simp)
  · repeat (any_goals (first | refine T.seq ?_ | refine T.region ?_ | refine TL.nil ?_ | refine N.next ?_ | refine N.inBlock ?_ | refine N.exit_same ?_ | refine N.exit_then ?_ | refine N.ret_then ?_ | refine N.ret_block ?_ | (apply N.exit_other; rfl) | refine T.ret ?_ | refine T.skip ?_ | refine T.exit ?_ | refine T.block ?_ | (apply T.cond_true; rfl) | (apply T.cond_false; rfl) | (apply T.test; rfl; (exact isx); intro _; rotate_left; intro _; rotate_right) | (apply TL.skip; rfl; rfl; rfl) | (apply TL.skip_none; rfl; rfl) | (apply TL.callE (f := 110) [strV l, strV p] Tryz.call110; (iterate 4 rfl); (exact fun _ hs => c_HasPrefix0 _ _ _ _ hs.sat hl hp)) | (apply TL.val; rfl; rfl; (first | exact vpure | exact vread)) | (apply TL.x; rfl; rfl; (first | exact xgrow | exact xput); intro _ _) | (apply TL.guard; rfl; rfl; rfl; (exact isx); intro _; rotate_left; intro _; rotate_right)))
    all_goals (try contradiction)
    rw [if_neg h, decide_eq_false h]
    exact N.ret_two rfl (by (exact rvx)) (by (exact rvx)) rfl
theorem c_stringsCut (l p : Bytes) (H : Hp) (w : World) (hs : Sat H w) (hl : LenOk l) (hp : LenOk p) : Calls Tryz.prog 112 #[strV l, strV p] w (Ret w (.tuple #[strV (if l.take p.length = p then l.drop p.length else l), .bool (decide (l.take p.length = p))])) := by
  refine T.enter (vs := [strV l, strV p]) (H := H) Tryz.func112 rfl rfl rfl hs ?_
  repeat (any_goals (first | refine T.seq ?_ | refine T.region ?_ | refine TL.nil ?_ | refine N.next ?_ | refine N.inBlock ?_ | refine N.exit_same ?_ | refine N.exit_then ?_ | refine N.ret_then ?_ | refine N.ret_block ?_ | (apply N.exit_other; rfl) | refine T.ret ?_ | refine T.skip ?_ | refine T.exit ?_ | refine T.block ?_ | (apply T.cond_true; rfl) | (apply T.cond_false; rfl) | (apply T.test; rfl; (exact isx); intro _; rotate_left; intro _; rotate_right) | (apply TL.skip; rfl; rfl; rfl) | (apply TL.skip_none; rfl; rfl) | (apply TL.callE (f := 151) [strV l, strV p] Tryz.call151; (iterate 4 rfl); (exact fun _ hs => c_stringsCut0 _ _ _ _ hs.sat hl hp)) | (apply TL.val; rfl; rfl; (first | exact vpure | exact vread)) | (apply TL.x; rfl; rfl; (first | exact xgrow | exact xput); intro _ _) | (apply TL.guard; rfl; rfl; rfl; (exact isx); intro _; rotate_left; intro _; rotate_right)))
  exact N.ret_two rfl (by (exact rvx)) (by (exact rvx)) rfl
theorem c_stringsCutT {l p : Bytes} (h : l.take p.length = p) {H : Hp} {w : World} (hs : Sat H w) (hl : LenOk l) (hp : LenOk p) : Calls Tryz.prog 112 #[strV l, strV p] w (Ret w (.tuple #[strV (l.drop p.length), .bool true])) := by
  have := c_stringsCut l p H w hs hl hp
  rwa [if_pos h, decide_eq_true h] at this
theorem c_stringsCutF {l p : Bytes} (h : ¬ l.take p.length = p) {H : Hp} {w : World} (hs : Sat H w) (hl : LenOk l) (hp : LenOk p) : Calls Tryz.prog 112 #[strV l, strV p] w (Ret w (.tuple #[strV l, .bool false])) := by
  have := c_stringsCut l p H w hs hl hp
  rwa [if_neg h, decide_eq_false h] at this
theorem c_wildAbove (wild s : Bytes) (H : Hp) (w : World) (hs : Sat H w) (hl : LenOk wild) (hz : LenOk s) : Calls Tryz.prog 73 #[strV wild, strV s] w (Ret w (.bool (wildAboveC wild s))) := by
  refine T.enter (vs := [strV wild, strV s]) (H := H) Tryz.func73 rfl rfl rfl hs ?_
  have hd : LenOk (wild.drop 2) := Nat.le_trans (by rw [List.length_drop]; omega) hl
  have h2 : LenOk [42, 46] := by show LenOk [42, 46]; decide
  by_cases h : wild.take [42, 46].length = [42, 46]
  · repeat (any_goals (first | refine T.seq ?_ | refine T.region ?_ | refine TL.nil ?_ | refine N.next ?_ | refine N.inBlock ?_ | refine N.exit_same ?_ | refine N.exit_then ?_ | refine N.ret_then ?_ | refine N.ret_block ?_ | (apply N.exit_other; rfl) | refine T.ret ?_ | refine T.skip ?_ | refine T.exit ?_ | refine T.block ?_ | (apply T.cond_true; rfl) | (apply T.cond_false; rfl) | (apply T.test; rfl; (exact isx); intro _; rotate_left; intro _; rotate_right) | (apply TL.skip; rfl; rfl; rfl) | (apply TL.skip_none; rfl; rfl) | (apply TL.callE (f := 112) [strV wild, strV [42, 46]] Tryz.call112; (iterate 4 rfl); (exact fun _ hs => c_stringsCutT h hs.sat hl h2)) | (apply TL.callE (f := 113) [strV s, strV (wild.drop 2)] Tryz.call113; (iterate 4 rfl); (exact fun _ hs => c_vbelow s (wild.drop 2) _ _ hs.sat hz hd)) | (apply TL.val; rfl; rfl; (first | exact vpure | exact vread)) | (apply TL.x; rfl; rfl; (first | exact xgrow | exact xput); intro _ _) | (apply TL.guard; rfl; rfl; rfl; (exact isx); intro _; rotate_left; intro _; rotate_right)))
    all_goals (try contradiction)
    all_goals (try (first | (apply N.ret_bool; rfl; (exact rvx)) | (apply N.ret_int; rfl; (exact rvx)) | (apply N.ret_val; rfl; (exact rvx))))
    all_goals (unfold wildAboveC; rw [show wild.take 2 = [42, 46] from h]; simp_all)
  · repeat (any_goals (first | refine T.seq ?_ | refine T.region ?_ | refine TL.nil ?_ | refine N.next ?_ | refine N.inBlock ?_ | refine N.exit_same ?_ | refine N.exit_then ?_ | refine N.ret_then ?_ | refine N.ret_block ?_ | (apply N.exit_other; rfl) | refine T.ret ?_ | refine T.skip ?_ | refine T.exit ?_ | refine T.block ?_ | (apply T.cond_true; rfl) | (apply T.cond_false; rfl) | (apply T.test; rfl; (exact isx); intro _; rotate_left; intro _; rotate_right) | (apply TL.skip; rfl; rfl; rfl) | (apply TL.skip_none; rfl; rfl) | (apply TL.callE (f := 112) [strV wild, strV [42, 46]] Tryz.call112; (iterate 4 rfl); (exact fun _ hs => c_stringsCutF h hs.sat hl h2)) | (apply TL.val; rfl; rfl; (first | exact vpure | exact vread)) | (apply TL.x; rfl; rfl; (first | exact xgrow | exact xput); intro _ _) | (apply TL.guard; rfl; rfl; rfl; (exact isx); intro _; rotate_left; intro _; rotate_right)))
    all_goals (try contradiction)
    all_goals (try (first | (apply N.ret_bool; rfl; (exact rvx)) | (apply N.ret_int; rfl; (exact rvx)) | (apply N.ret_val; rfl; (exact rvx))))
    all_goals (unfold wildAboveC; rw [show decide (wild.take 2 = [42, 46]) = false from decide_eq_false h]; simp_all)
end Go.Proofs.YtpnoabbdcakjkaaGreatDoor
