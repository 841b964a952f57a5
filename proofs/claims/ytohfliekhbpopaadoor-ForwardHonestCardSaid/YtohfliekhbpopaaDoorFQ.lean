/- Walks: what the laws of forwarding resolvers share. -/
import Derived.Test.YtohfliekhbpopaaDoorFM
namespace Go.Proofs.YtohfliekhbpopaaDoor
set_option linter.unusedVariables false
set_option linter.unusedSimpArgs false
open Go Go.RowKit
open Enc (enc)
set_option maxRecDepth 20000

section
variable {P : Program} {n : FK} {S : World → Prop} {env : List (Nat × Value)}
theorem V.bneqS {t u : TypeId} {x y : Operand} {i : Bool} (hk : P.underlying t = some .bool) (hx : ev env x = some (.bool i)) (hy : ev env y = some (.bool i)) : V P n S env (.binOp .neq t x y u) (.bool false) := by
  have h := V.bneq (P := P) (n := n) (S := S) (t := t) (u := u) hk hx hy
  rwa [beq_self_eq_true] at h
theorem V.gtrF {k : IntKind} {t u : TypeId} {x y : Operand} {i j : Int} (hij : ¬ j < i) (hx : ev env x = some (.int k i)) (hy : ev env y = some (.int k j)) : V P n S env (.binOp .gtr t x y u) (.bool false) := by
  have h := V.gtr (P := P) (n := n) (S := S) (t := t) (u := u) hx hy
  rwa [decide_eq_false hij] at h
end
theorem c_SameFwdT (a b : Fwd) (hc : a.c = b.c) {H : Hp} {w : World} (hs : Sat H w) (ha : Enc.good H a) (hb : Enc.good H b) : Calls Tryd.prog 18 #[.agg (enc a).toArray, .agg (enc b).toArray] w (Ret w (.bool true)) := by
  have h := c_SameFwd a b H w hs ha hb
  rw [decide_eq_true hc] at h
  exact h
theorem c_SameMsgT (a b : Msg) (hc : a.c = b.c) {H : Hp} {w : World} (hs : Sat H w) (ha : Enc.good H a) (hb : Enc.good H b) : Calls Tryd.prog 19 #[.agg (enc a).toArray, .agg (enc b).toArray] w (Ret w (.bool true)) := by
  have h := c_SameMsg a b H w hs ha hb
  rw [decide_eq_true hc] at h
  exact h
theorem c_SameMsgsT29 (a b : Slc Msg) (hc : a.els.map Msg.c = b.els.map Msg.c) {H : Hp} {w : World} (hs : Sat H w) (ha : a.Good H) (hb : b.Good H) : Calls Tryd.prog 24 #[a.v, b.v] w (Ret w (.bool true)) := by
  have h := c_SameMsgs29 a b H w hs ha hb
  rw [decide_eq_true hc] at h
  exact h
theorem c_fewLawV (f : Fwd) (m : Msg) {b : Bool} (h : (fewF f.c && fewM m.c) = b) {H : Hp} {w : World} (hs : Sat H w) (hf : Enc.good H f) (hm : Enc.good H m) : Calls Tryd.prog 15 #[.agg (enc f).toArray, .agg (enc m).toArray] w (Ret w (.bool b)) := by
  subst h
  exact c_fewLaw f m H w hs hf hm
end Go.Proofs.YtohfliekhbpopaaDoor
