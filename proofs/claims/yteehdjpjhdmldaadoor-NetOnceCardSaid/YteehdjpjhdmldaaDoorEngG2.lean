/-
  The engine, drawn regions: a quiet operation further on is taken first.
-/
import Derived.Test.YteehdjpjhdmldaaDoorEngG
namespace Go.Proofs.YteehdjpjhdmldaaDoor
set_option linter.unusedVariables false
set_option linter.unusedSimpArgs false
open Go Go.RowKit
section
variable {P : Program} {n : FK} {w0 : World} {H0 HS H : Hp} {K : Act → World → Prop} {env : List (Nat × Value)} {LS L : List Loc} {ops : List Oper} {ok : Bool} {fuel k : Nat} {ex : List Nat}
def chkAt (ops : List Oper) (k : Nat) (ex : List Nat) (j : Nat) : Bool := (Region.ready .any ops.toArray (marks ops.length k ex)).contains j && Region.free .any ops.toArray (marks ops.length k ex) j && Region.noSelect ops.toArray
theorem GT.firstAt (j : Nat) {d : Nat} {op : Op} {ty : TypeId} {pos : String} {after : Array Edge} {g : Option (Nat × Bool)} {v : Value} (hi : ops[j]? = some ⟨some d, op, ty, pos, after, g⟩) (hn : Nat.blt d n.n = true)
    (hq : ∀ a, Fr n env a → Quiet P ops.toArray (SS w0 H0 HS LS ops j) ⟨some d, op, ty, pos, after, g⟩ v a) (hS : ∀ w, St w0 H0 H L w → (ok = true → St w0 H0 HS LS w) → SS w0 H0 HS LS ops j w) (hc : chkAt ops k ex j = true)
    (h : GT P n w0 H0 ops K HS LS ok fuel k (j :: ex) ((d, v) :: env) H L) : GT P n w0 H0 ops K HS LS ok (fuel + 1) k ex env H L :=
  ⟨fun hcl a w hf hs hk => by
    simp only [chkAt, Bool.and_eq_true] at hc
    obtain ⟨⟨h1, h2⟩, h3⟩ := hc
    have hi' : ops.toArray[j]? = some ⟨some d, op, ty, pos, after, g⟩ := by simpa using hi
    have hr : j ∈ Region.ready .any ops.toArray (marks ops.length k ex) := by simpa using h1
    refine G.first SS.grow hi' (Region.noSelect_spec h3) fuel _ a w hcl (Region.free_spec hi' h2) hr (hq a hf) (hS w hs hk) ?_
    have hcl' := closed_set hcl hr
    rw [marks_more] at hcl' ⊢
    exact h.out hcl' _ _ (hf.put hn v) hs hk⟩
theorem GT.pureAt (j : Nat) {d : Nat} {op : Op} {ty : TypeId} {pos : String} {after : Array Edge} {g : Option (Nat × Bool)} {v : Value} (hi : ops[j]? = some ⟨some d, op, ty, pos, after, g⟩) (hm : mqAt ops j = false) (hn : Nat.blt d n.n = true)
    (hw : want ops env ⟨some d, op, ty, pos, after, g⟩ = some true) (hv : V P n (fun _ => True) env op v) (hc : chkAt ops k ex j = true)
    (h : GT P n w0 H0 ops K HS LS ok fuel k (j :: ex) ((d, v) :: env) H L) : GT P n w0 H0 ops K HS LS ok (fuel + 1) k ex env H L :=
  GT.firstAt j hi hn (fun a hf => .inl ⟨want_spec hf hw, fun w _ => by unfold Oper.quietAt; rw [hv.out _ a w rfl hf trivial]; exact ⟨rfl, rfl⟩⟩) (fun w _ _ hh => by rw [hm] at hh; cases hh) hc h
theorem GT.readAt (j : Nat) {d : Nat} {op : Op} {ty : TypeId} {pos : String} {after : Array Edge} {g : Option (Nat × Bool)} {v : Value} (hi : ops[j]? = some ⟨some d, op, ty, pos, after, g⟩) (hm : mqAt ops j = true) (hn : Nat.blt d n.n = true)
    (hw : want ops env ⟨some d, op, ty, pos, after, g⟩ = some true) (hv : V P n (St w0 H0 HS LS) env op v) (hc : chkAt ops k ex j = true)
    (h : GT P n w0 H0 ops K HS LS true fuel k (j :: ex) ((d, v) :: env) H L) : GT P n w0 H0 ops K HS LS true (fuel + 1) k ex env H L :=
  GT.firstAt j hi hn (fun a hf => .inl ⟨want_spec hf hw, fun w hs => by unfold Oper.quietAt; rw [hv.out _ a w rfl hf (hs hm)]; exact ⟨rfl, rfl⟩⟩) (fun w _ hh _ => hh rfl) hc h
end
end Go.Proofs.YteehdjpjhdmldaaDoor
