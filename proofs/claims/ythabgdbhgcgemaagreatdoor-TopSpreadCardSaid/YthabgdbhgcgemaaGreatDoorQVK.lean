import Derived.Test.YthabgdbhgcgemaaGreatDoorQTMap
import Derived.Maps.RangeRun
import Derived.Shelf.SlSortCmp.NoneTotal
namespace Go.Proofs.YthabgdbhgcgemaaGreatDoor
set_option linter.unusedVariables false
set_option linter.unusedSimpArgs false
open Go Go.RowKit
open Enc (enc)
section
variable {α : Type} [Inhabited α]
theorem grow_of {w w' : World} (h : Below w.heap.size w w') : ∃ q os, w' = Go.Sort.grow (w.drewN q) os := by
  refine ⟨w'.drawn - w.drawn, w'.heap.extract w.heap.size w'.heap.size, ?_⟩
  obtain ⟨h1, h2, h3, h4, h5, h6⟩ := h
  obtain ⟨heap, tape, drawn, os, output⟩ := w
  obtain ⟨heap', tape', drawn', os', output'⟩ := w'
  simp only at *
  subst h1 h2 h3
  unfold Go.Sort.grow World.drewN
  simp only [World.mk.injEq, true_and, and_true]
  refine ⟨?_, by omega⟩
  apply Array.ext_getElem?
  intro k
  rw [Array.getElem?_append]
  split
  · rename_i hk
    exact h5 k hk
  · rename_i hk
    rw [Array.getElem?_extract]
    split
    · congr 1; omega
    · rw [Array.getElem?_eq_none (by omega)]
end
section
variable {w0 w : World} {H0 H : Hp} {LL : List Loc}
theorem St.draws (hs : St w0 H0 H LL w) (q : Nat) : St w0 H0 H LL (Go.Sort.ahead w q) :=
  hs.grow ⟨rfl, rfl, rfl, Nat.le_refl _, fun _ _ => rfl, Nat.le_add_right _ _⟩
theorem St.grown (hs : St w0 H0 H LL w) (os : Array Obj) : St w0 H0 H LL (Go.Sort.grow w os) :=
  hs.grow ⟨rfl, rfl, rfl, by rw [Go.Sort.size_grow]; omega, fun k hk => Go.Sort.heap_grow_old w os hk, Nat.le_refl _⟩
theorem St.putRow {α : Type} [Inhabited α] (enc : α → Value) (hs : St w0 H0 H LL w) {i b m c size : Nat} {e : TypeId} {xs : List Value} (hi : LL[i]? = some (.row (.slice (some ⟨b, 0, none⟩) m c) e size m xs)) (d : Array α) (hd : d.size = m * size) :
    St w0 H0 H (LL.set i (.row (.slice (some ⟨b, 0, none⟩) m c) e size m (d.toList.map enc))) (Go.Sort.putRow enc w b 0 d) := by
  obtain ⟨cur, h1, h2, h3, h4, h5, h6, h7⟩ := hs.row_get (List.mem_of_getElem? hi)
  have hmc : m * size ≤ c * size := Nat.mul_le_mul_right _ h4
  have hat : (Go.Sort.putRow enc w b 0 d).heap[b]? = some (.cells (Go.Sort.putCells enc 0 d cur) e (0, 0)) := by
    unfold Go.Sort.putRow Go.Sort.mapBlock
    simp [Array.getElem?_modify, h1, Go.Sort.onCells]
  refine hs.set hi rfl rfl (fun k hk => ?_) ?_ rfl rfl rfl (Nat.le_refl _) ?_
  · unfold Go.Sort.putRow Go.Sort.mapBlock
    rw [Array.getElem?_modify, if_neg (Ne.symm hk)]
  · simp [Go.Sort.putRow, Go.Sort.mapBlock]
  · refine ⟨by rw [List.length_map, Array.length_toList, hd], .inr ⟨b, c, _, rfl, h2, hat, h4, h5, by simp [Go.Sort.putCells, h6], ?_⟩⟩
    apply List.ext_getElem?
    intro k
    rw [List.getElem?_take]
    split
    · rename_i hk
      have hkc : k < cur.size := by omega
      have hkd : k < d.size := by omega
      simp only [Go.Sort.putCells, Array.getElem?_toList, Array.getElem?_mapIdx, Array.getElem?_eq_getElem hkc, List.getElem?_map, Array.getElem?_eq_getElem hkd, Option.map_some]
      rw [if_pos ⟨Nat.zero_le _, by omega⟩, Nat.sub_zero, getElem!_pos d k hkd]
    · rename_i hk
      rw [List.getElem?_eq_none (by rw [List.length_map, Array.length_toList]; omega)]
theorem holds_row {α : Type} [Inhabited α] (enc : α → Value) (hs : St w0 H0 H LL w) {b m c size : Nat} {e : TypeId} {xs : List Value} (hm : Loc.row (.slice (some ⟨b, 0, none⟩) m c) e size m xs ∈ LL) (d : Array α) (hd : d.toList.map enc = xs) : Go.Sort.Holds enc w b 0 d := fun j hj => by
  obtain ⟨cur, h1, h2, h3, h4, h5, h6, h7⟩ := hs.row_get hm
  refine ⟨?_, by simp [World.frozen?, h1]⟩
  rw [Nat.zero_add]
  refine hs.row_cell hm ?_
  rw [← hd, List.getElem?_map, Array.getElem?_toList, Array.getElem?_eq_getElem hj, getElem!_pos d j hj]
  rfl
end
section
variable {P : Program} {ρ : Go.Shelf.Ren} {w0 w : World} {H0 H : Hp} {LL : List Loc}
structure SortedZ {α : Type} (cf : α → α → Int) (xs ys : List α) : Prop where
  perm : ys.Perm xs
  ord : ys.Pairwise fun a b => ltOf cf b a = false
theorem sortedZ_of {α : Type} [Inhabited α] {cf : α → α → Int} {xs : List α} {d' : Array α} (hp : Go.Sort.PermIn 0 xs.toArray.size xs.toArray d') (ho : Go.Sort.SortedIn (ltOf cf) 0 xs.toArray.size d') : SortedZ cf xs d'.toList := by
  obtain ⟨h1, _, h3⟩ := hp
  have e1 : xs.toArray.extract 0 xs.toArray.size = xs.toArray := Array.extract_size
  have e2 : d'.extract 0 xs.toArray.size = d' := by rw [← h1]; exact Array.extract_size
  rw [e1, e2, List.toList_toArray] at h3
  refine ⟨h3, ?_⟩
  rw [List.pairwise_iff_getElem]
  intro i j hi hj hij
  have hi' : i < d'.size := by simpa using hi
  have hj' : j < d'.size := by simpa using hj
  have := ho i j (Nat.zero_le _) hij (by omega)
  rw [getElem!_pos d' i hi', getElem!_pos d' j hj'] at this
  simpa using this
theorem flatK_encs {α : Type} [Inhabited α] [Enc α] (l : List α) : (Go.Sort.flatK (α := α) enc (Enc.size α) l.toArray).toList = encs l := by
  have hpos := Enc.pos (α := α)
  apply List.ext_getElem
  · rw [Array.length_toList, Go.Sort.size_flatK, encs_length, List.size_toArray]
  · intro t h1 h2
    rw [encs_length] at h2
    have hlt : t / Enc.size α < l.length := (Nat.div_lt_iff_lt_mul hpos).2 h2
    have hmod : t % Enc.size α < (enc (l[t / Enc.size α])).length := by rw [Enc.len]; exact Nat.mod_lt _ hpos
    have h3 := encs_get l (t / Enc.size α) (t % Enc.size α) _ _ (List.getElem?_eq_getElem hlt) (List.getElem?_eq_getElem hmod)
    rw [Nat.div_add_mod'] at h3
    rw [List.getElem?_eq_getElem (by rw [encs_length]; exact h2)] at h3
    rw [Option.some.inj h3, Array.getElem_toList]
    have h4 := Go.Sort.get_flatK (α := α) enc (Enc.size α) l.toArray t (by simpa using h2)
    rw [getElem!_pos (Go.Sort.flatK (α := α) enc (Enc.size α) l.toArray) t (by rw [Go.Sort.size_flatK]; simpa using h2), getElem!_pos l.toArray _ (by simpa using hlt)] at h4
    rw [h4, List.getElem_toArray, getElem!_pos (enc (l[t / Enc.size α])) _ hmod]
end
end Go.Proofs.YthabgdbhgcgemaaGreatDoor
