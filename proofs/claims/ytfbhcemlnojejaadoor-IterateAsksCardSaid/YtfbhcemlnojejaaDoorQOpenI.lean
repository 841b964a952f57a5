/- Opening: slices of numbers, and how long a slice is. -/
import Derived.Test.YtfbhcemlnojejaaDoorQOpenT
namespace Go.Proofs.YtfbhcemlnojejaaDoor
set_option linter.unusedVariables false
set_option linter.unusedSimpArgs false
open Go Go.RowKit Go.ChangeShapes Go.WideShapes
section
variable {w : World} {base : Nat} {sp : Nat → Bool} {held : Bool}
theorem decI64 : Dec Tryd.prog w base sp held Int 3 := by
  intro R en fuel cs x h
  obtain ⟨n, e, g⟩ := dec_int Tryd.underlying3 h
  exact ⟨n, e, g⟩
end
section
variable {R : Type} {en : TypeId × Value → R} {P : Program} {W : World}
theorem slice_weight {α : Type} [Enc α] {t e : TypeId} {base : Nat} {sp' : Nat → Bool} {held : Bool} {s : Slc α} {d : DataW R} {p : List MemPlace} (ht : P.underlying t = some (.slice e)) (h : DataW.Trod en P W base sp' held t s.v d p) (hb : (d.weights P t).all (· ≤ reachBytes) = true) : s.len * P.bytesOf e ≤ reachBytes := by
  obtain ⟨fuel, hf⟩ := h
  rcases Deep.open_slice ht hf with ⟨h1, h2⟩ | ⟨a, len, cap, m, n, D, Pl, h1, _, _, _, _, h2, _⟩
  · have e' : [Value.slice s.A s.len s.cap] = [.slice none 0 0] := h1
    injection e' with e1
    injection e1 with _ e2 _
    rw [e2, Nat.zero_mul]
    exact Nat.zero_le _
  · have e' : [Value.slice s.A s.len s.cap] = [.slice (some a) len cap] := h1
    injection e' with e1
    injection e1 with _ e2 _
    have hd : d = .slice ((List.range len).map D) ((List.range (m - len)).map fun j => D (len + j)) := congrArg Prod.fst h2
    subst hd
    unfold DataW.weights at hb
    rw [ht] at hb
    simp only [List.all_cons, Bool.and_eq_true, decide_eq_true_eq, List.length_map, List.length_range] at hb
    refine Nat.le_trans ?_ hb.1
    rw [e2]
    exact Nat.mul_le_mul_right _ (Nat.le_add_right _ _)
theorem weights_head {H : Type} {t : TypeId} {ts : List TypeId} {d : DataW H} {r : List (DataW H)} {b : Nat} (h : (DataW.weightsEach P (t :: ts) (d :: r)).all (· ≤ b) = true) : (d.weights P t).all (· ≤ b) = true := by
  unfold DataW.weightsEach at h
  rw [List.all_append, Bool.and_eq_true] at h
  exact h.1
end
end Go.Proofs.YtfbhcemlnojejaaDoor
