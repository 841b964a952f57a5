import Derived.Test.YthabgdbhgcgemaaGreatDoorQVK
import Derived.Test.YthabgdbhgcgemaaGreatDoorQBD
import Derived.Test.YthabgdbhgcgemaaGreatDoorQTac
import Derived.Test.YthabgdbhgcgemaaGreatDoorQEngC
import Derived.Test.YthabgdbhgcgemaaGreatDoorQWA
import Derived.Test.YthabgdbhgcgemaaGreatDoorQDataH
import Derived.Shelf.SortM.Plain
import Derived.Shelf.SortM.SortNone
import Derived.Shelf.SlSorted.Search
import Derived.Shelf.SlSortCmp.NoneTotal
import Derived.Test.YthabgdbhgcgemaaGreatDoorProg
namespace Go.Proofs.YthabgdbhgcgemaaGreatDoor
set_option linter.unusedVariables false
set_option linter.unusedSimpArgs false
open Go Go.RowKit
open Enc (enc)
section
variable {P : Program} {ρ : Go.Shelf.Ren} {w0 w : World} {H0 H : Hp} {LL : List Loc}
theorem c_sortKC {α : Type} [Inhabited α] [Enc α] (Y : SlLaysF0.n6 P ρ) (aE : ∀ w, (isAgg (ρ.t 24)).run P w = .ok true w) (zE : ∀ w, (Go.sizeOf (ρ.t 24)).run P w = .ok (Enc.size α) w) (cf : α → α → Int) (hO : Go.Sort.SWO (ltOf cf)) (g : Nat) (cb : List Value) (eg : ∀ args w, (callFunc g args).run P w = .ok (.enter g args) w)
    (hc : ∀ (x y : α) W, Sat H W → Calls P g (.agg (enc x).toArray :: .agg (enc y).toArray :: cb).toArray W (Ret W (intV (cf x y)))) {v : Value} {e : TypeId} {xs : List α} (hs : St w0 H0 H LL w) (i : Nat) (hi : LL[i]? = some (.row v e (Enc.size α) xs.length (encs xs))) (hlen : xs.length < 4611686018427387904) :
    Calls P (ρ.f 6) #[v, .func (.func g) #[] cb.toArray] w (fun e' w' => ∃ ys : List α, SortedZ cf xs ys ∧ e' = .returned (.tuple #[]) ∧ St w0 H0 H (LL.set i (.row v e (Enc.size α) ys.length (encs ys))) w') := by
  have hme := List.mem_of_getElem? hi
  rcases (show w.ownsRow w0.heap.size e (Enc.size α) v xs.length (encs xs) from hs.ok _ hme).2 with ⟨rfl, h0⟩ | ⟨b, c, cur, rfl, h2, h3, h4, h5, h6, h7⟩
  · refine (AnyF.slices_SortFunc_none Y none 0 (.func (.func g) #[] cb.toArray) w).mono ?_
    rintro e' w' ⟨rfl, rfl⟩
    have hx : xs = [] := List.eq_nil_of_length_eq_zero h0
    subst hx
    exact ⟨[], ⟨.refl _, .nil⟩, rfl, by rw [set_same hi]; exact hs⟩
  · have hsz : xs.toArray.size = xs.length := by simp
    have hH : Go.Sort.HoldsK (α := α) enc (Enc.size α) w b 0 xs.toArray := holds_row id hs hme _ (by rw [List.map_id, flatK_encs])
    have hb : b < w.heap.size := (Array.getElem?_eq_some_iff.1 h3).1
    have hcmp : CmpLays P g cb.toArray (α := α) enc (Enc.size α) cf b 0 xs.toArray.size w := fun m os dk hdk x y => by
      have hst := ((hs.draws m).putRow id hi (Go.Sort.flatK (α := α) enc (Enc.size α) dk) (by rw [Go.Sort.size_flatK, hdk, hsz])).grown os
      have hsat : Sat H (sortWorldK (α := α) enc (Enc.size α) w b 0 m dk os) := hst.sat
      refine ((show Calls P g (#[.agg (enc x).toArray, .agg (enc y).toArray] ++ cb.toArray) _ (Ret _ (intV (cf x y))) by simpa using hc x y _ hsat)).mono ?_
      rintro e' w' ⟨he, hbl⟩
      exact ⟨he, grow_of hbl⟩
    have := AnyQ.slices_SortFunc Y (Enc.size α) aE zE enc Enc.len (fun x => List.all_eq_true.1 (Enc.one x)) cf hO g cb.toArray b 0 c xs.toArray w eg hcmp hH hb (by omega)
    rw [hsz] at this
    refine this.mono ?_
    rintro e' w' ⟨rfl, d', n, os, hp, ho, rfl⟩
    have hd : d'.size = xs.length := by rw [← hsz]; exact (by rw [hsz] ; exact hp.1.trans hsz)
    refine ⟨d'.toList, sortedZ_of (by rw [hsz]; exact hp) (by rw [hsz]; exact ho), rfl, ?_⟩
    have hst := ((hs.draws n).putRow id hi (Go.Sort.flatK (α := α) enc (Enc.size α) d') (by rw [Go.Sort.size_flatK, hd])).grown os
    rw [List.map_id, show d' = d'.toList.toArray by simp, flatK_encs] at hst
    rw [show d'.toList.length = xs.length by simpa using hd]
    simpa [sortWorldK, Go.Sort.putRowK] using hst
theorem encs_ints (l : List Int) : encs l = l.map intV := by
  induction l with
  | nil => rfl
  | cons x t ih => show [intV x] ++ encs t = _; rw [ih]; rfl
theorem mergeSort_sortI (l : List Int) : (l.mergeSort fun x y => decide (x ≤ y)) = sortI l := by
  refine eq_sortI (List.mergeSort_perm l _) ?_
  have := List.pairwise_mergeSort (le := fun x y : Int => decide (x ≤ y)) (fun a b c h1 h2 => by simp only [decide_eq_true_eq] at *; omega) (fun a b => by simp only [Bool.or_eq_true, decide_eq_true_eq]; omega) l
  exact this.imp fun h => of_decide_eq_true h
theorem c_sortI (Y : SlLaysM.n5 P ρ) {v : Value} {e : TypeId} {xs : List Int} (hs : St w0 H0 H LL w) (i : Nat) (hi : LL[i]? = some (.row v e 1 xs.length (encs xs))) (hlen : xs.length < 4611686018427387904) :
    Calls P (ρ.f 5) #[v] w (fun e' w' => e' = .returned (.tuple #[]) ∧ St w0 H0 H (LL.set i (.row v e 1 (sortI xs).length (encs (sortI xs)))) w') := by
  have hme := List.mem_of_getElem? hi
  rcases (show w.ownsRow w0.heap.size e 1 v xs.length (encs xs) from hs.ok _ hme).2 with ⟨rfl, h0⟩ | ⟨b, c, cur, rfl, h2, h3, h4, h5, h6, h7⟩
  · refine (AnyM.slices_Sort_int_none Y none 0 w).mono ?_
    rintro e' w' ⟨rfl, rfl⟩
    have hx : xs = [] := List.eq_nil_of_length_eq_zero h0
    subst hx
    exact ⟨rfl, by show St w0 H0 H (LL.set i (.row (.slice none 0 0) e 1 ([] : List Int).length (encs ([] : List Int)))) w'; rw [set_same hi]; exact hs⟩
  · have hH : Go.Sort.Holds (Value.int .i64) w b 0 xs.toArray := holds_row _ hs hme _ (by rw [encs_ints])
    have hb : b < w.heap.size := (Array.getElem?_eq_some_iff.1 h3).1
    have := AnyM.slices_Sort_int Y b 0 c xs w hH hb (by omega)
    refine this.mono ?_
    rintro e' w' ⟨rfl, n, os, rfl⟩
    have hl : (sortI xs).length = xs.length := (sortI_perm xs).length_eq
    refine ⟨rfl, ?_⟩
    rw [mergeSort_sortI]
    have hst := ((hs.draws n).putRow (Value.int .i64) hi (sortI xs).toArray (by simp [hl])).grown os
    rw [hl, encs_ints]
    exact hst
theorem c_search (Y : SlLaysO.n16 P ρ) (g : Nat) (cb : List Value) (n : Nat) (p : Nat → Bool) (eg : ∀ args w, (callFunc g args).run P w = .ok (.enter g args) w) (hn : n < 4611686018427387904)
    (hf : ∀ (i : Nat) W, i < n → Sat H W → Calls P g (intV i :: cb).toArray W (Ret W (.bool (p i)))) (hmono : ∀ a b, a ≤ b → b < n → p a = true → p b = true) (hs : Sat H w) :
    Calls P (ρ.f 16) #[intV n, .func (.func g) #[] cb.toArray] w (Ret w (intV ((List.range n).countP (fun i => !p i) : Nat))) := by
  refine (Any.sort_Search Y g cb.toArray n p w eg hn (fun m os i hi => ?_) hmono).mono ?_
  · have hst := ((St.start w H hs).draws m).grown os
    have h1 := hf i (Go.Sort.grow (w.drewN m) os) hi hst.sat
    refine ((show Calls P g (#[.int .i64 (i : Int)] ++ cb.toArray) (Go.Sort.grow (w.drewN m) os) (Ret (Go.Sort.grow (w.drewN m) os) (.bool (p i))) by simpa using h1)).mono ?_
    rintro e' w' ⟨he, hbl⟩
    exact ⟨he, grow_of hbl⟩
  · rintro e' w' ⟨he, q, os, rfl⟩
    exact ⟨he, (((St.start w H hs).draws q).grown os).below⟩
end
end Go.Proofs.YthabgdbhgcgemaaGreatDoor
namespace Go.Proofs.YthabgdbhgcgemaaGreatDoor
set_option linter.unusedVariables false
set_option linter.unusedSimpArgs false
open Go Go.Shelf
def laySg_ren : Go.Shelf.Ren := ⟨fun | 6 => 114 | 15 => 24 | 14 => 139 | 28 => 53 | 29 => 54 | 20 => 171 | 21 => 172 | 22 => 173 | 23 => 174 | 24 => 175 | 25 => 176 | 26 => 177 | 27 => 178 | 46 => 192 | 47 => 90 | 48 => 91 | 49 => 193 | 50 => 194 | 57 => 207 | n => n, fun | 22 => 30 | 24 => 86 | 25 => 164 | 3 => 3 | 39 => 67 | 0 => 0 | 53 => 113 | 55 => 100 | 4 => 4 | 46 => 105 | 45 => 104 | 50 => 110 | 5 => 5 | 9 => 9 | 66 => 142 | 70 => 146 | 76 => 178 | 77 => 179 | n => n, fun | n => n⟩
theorem laySg : Go.Proofs.SlLaysF0.n6 Tryz.prog laySg_ren := {
  mixed := by kernel_rfl
  f6 := ⟨Tryz.f114.name, by decide, Tryz.func114.trans (congrArg some (by kernel_rfl))⟩
  f14 := ⟨Tryz.f139.name, by decide, Tryz.func139.trans (congrArg some (by kernel_rfl))⟩
  f15 := Tryz.func24.trans (congrArg some (by kernel_rfl))
  f20 := ⟨Tryz.f171.name, by decide, Tryz.func171.trans (congrArg some (by kernel_rfl))⟩
  f21 := ⟨Tryz.f172.name, by decide, Tryz.func172.trans (congrArg some (by kernel_rfl))⟩
  f22 := ⟨Tryz.f173.name, by decide, Tryz.func173.trans (congrArg some (by kernel_rfl))⟩
  f23 := ⟨Tryz.f174.name, by decide, Tryz.func174.trans (congrArg some (by kernel_rfl))⟩
  f24 := ⟨Tryz.f175.name, by decide, Tryz.func175.trans (congrArg some (by kernel_rfl))⟩
  f25 := ⟨Tryz.f176.name, by decide, Tryz.func176.trans (congrArg some (by kernel_rfl))⟩
  f26 := ⟨Tryz.f177.name, by decide, Tryz.func177.trans (congrArg some (by kernel_rfl))⟩
  f27 := ⟨Tryz.f178.name, by decide, Tryz.func178.trans (congrArg some (by kernel_rfl))⟩
  f28 := Tryz.func53.trans (congrArg some (by kernel_rfl))
  f29 := Tryz.func54.trans (congrArg some (by kernel_rfl))
  f46 := ⟨Tryz.f192.name, by decide, Tryz.func192.trans (congrArg some (by kernel_rfl))⟩
  f47 := Tryz.func90.trans (congrArg some (by kernel_rfl))
  f48 := Tryz.func91.trans (congrArg some (by kernel_rfl))
  f49 := ⟨Tryz.f193.name, by decide, Tryz.func193.trans (congrArg some (by kernel_rfl))⟩
  f50 := ⟨Tryz.f194.name, by decide, Tryz.func194.trans (congrArg some (by kernel_rfl))⟩
  f57 := ⟨Tryz.f207.name, by decide, Tryz.func207.trans (congrArg some (by kernel_rfl))⟩
  t0 := Tryz.underlying0
  a0 := Tryz.isAgg0
  z0 := Tryz.sizeOf0
  v0 := Tryz.zeroValue0
  t3 := Tryz.underlying3
  a3 := Tryz.isAgg3
  z3 := Tryz.sizeOf3
  v3 := Tryz.zeroValue3
  t4 := Tryz.underlying4
  a4 := Tryz.isAgg4
  z4 := Tryz.sizeOf4
  v4 := Tryz.zeroValue4
  t5 := Tryz.underlying5
  a5 := Tryz.isAgg5
  z5 := Tryz.sizeOf5
  v5 := Tryz.zeroValue5
  t9 := Tryz.underlying9
  a9 := Tryz.isAgg9
  z9 := Tryz.sizeOf9
  v9 := Tryz.zeroValue9
  t22 := Tryz.underlying30
  a22 := Tryz.isAgg30
  z22 := Tryz.sizeOf30
  v22 := Tryz.zeroValue30
  t25 := Tryz.underlying164
  a25 := Tryz.isAgg164
  z25 := Tryz.sizeOf164
  v25 := Tryz.zeroValue164
  t39 := Tryz.underlying67
  a39 := Tryz.isAgg67
  z39 := Tryz.sizeOf67
  v39 := Tryz.zeroValue67
  t45 := Tryz.underlying104
  a45 := Tryz.isAgg104
  z45 := Tryz.sizeOf104
  v45 := Tryz.zeroValue104
  t46 := Tryz.underlying105
  a46 := Tryz.isAgg105
  z46 := Tryz.sizeOf105
  v46 := Tryz.zeroValue105
  t50 := Tryz.underlying110
  a50 := Tryz.isAgg110
  z50 := Tryz.sizeOf110
  v50 := Tryz.zeroValue110
  t53 := Tryz.underlying113
  a53 := Tryz.isAgg113
  z53 := Tryz.sizeOf113
  v53 := Tryz.zeroValue113
  t55 := Tryz.underlying100
  a55 := Tryz.isAgg100
  z55 := Tryz.sizeOf100
  v55 := Tryz.zeroValue100
  t66 := Tryz.underlying142
  a66 := Tryz.isAgg142
  z66 := Tryz.sizeOf142
  v66 := Tryz.zeroValue142
  t70 := Tryz.underlying146
  a70 := Tryz.isAgg146
  z70 := Tryz.sizeOf146
  v70 := Tryz.zeroValue146
  t76 := Tryz.underlying178
  a76 := Tryz.isAgg178
  z76 := Tryz.sizeOf178
  v76 := Tryz.zeroValue178
  t77 := Tryz.underlying179
  a77 := Tryz.isAgg179
  z77 := Tryz.sizeOf179
  v77 := Tryz.zeroValue179 }
def laySi_ren : Go.Shelf.Ren := ⟨fun | 5 => 7 | 8 => 24 | 7 => 23 | 19 => 53 | 20 => 54 | 10 => 44 | 11 => 45 | 12 => 46 | 13 => 47 | 14 => 48 | 15 => 49 | 16 => 50 | 17 => 51 | 18 => 52 | 30 => 89 | 31 => 90 | 32 => 91 | 33 => 92 | 34 => 93 | 35 => 94 | 40 => 133 | n => n, fun | 23 => 35 | 25 => 3 | 3 => 3 | 32 => 67 | 22 => 35 | 0 => 0 | 44 => 113 | 46 => 100 | 4 => 4 | 36 => 105 | 35 => 104 | 41 => 110 | 5 => 5 | 9 => 9 | 53 => 142 | 57 => 146 | 63 => 178 | 64 => 179 | n => n, fun | n => n⟩
theorem laySi : Go.Proofs.SlLaysM.n5 Tryz.prog laySi_ren := {
  mixed := by kernel_rfl
  f5 := ⟨Tryz.f7.name, by decide, Tryz.func7.trans (congrArg some (by kernel_rfl))⟩
  f7 := ⟨Tryz.f23.name, by decide, Tryz.func23.trans (congrArg some (by kernel_rfl))⟩
  f8 := Tryz.func24.trans (congrArg some (by kernel_rfl))
  f10 := ⟨Tryz.f44.name, by decide, Tryz.func44.trans (congrArg some (by kernel_rfl))⟩
  f11 := ⟨Tryz.f45.name, by decide, Tryz.func45.trans (congrArg some (by kernel_rfl))⟩
  f12 := ⟨Tryz.f46.name, by decide, Tryz.func46.trans (congrArg some (by kernel_rfl))⟩
  f13 := ⟨Tryz.f47.name, by decide, Tryz.func47.trans (congrArg some (by kernel_rfl))⟩
  f14 := ⟨Tryz.f48.name, by decide, Tryz.func48.trans (congrArg some (by kernel_rfl))⟩
  f15 := ⟨Tryz.f49.name, by decide, Tryz.func49.trans (congrArg some (by kernel_rfl))⟩
  f16 := ⟨Tryz.f50.name, by decide, Tryz.func50.trans (congrArg some (by kernel_rfl))⟩
  f17 := ⟨Tryz.f51.name, by decide, Tryz.func51.trans (congrArg some (by kernel_rfl))⟩
  f18 := ⟨Tryz.f52.name, by decide, Tryz.func52.trans (congrArg some (by kernel_rfl))⟩
  f19 := Tryz.func53.trans (congrArg some (by kernel_rfl))
  f20 := Tryz.func54.trans (congrArg some (by kernel_rfl))
  f30 := ⟨Tryz.f89.name, by decide, Tryz.func89.trans (congrArg some (by kernel_rfl))⟩
  f31 := Tryz.func90.trans (congrArg some (by kernel_rfl))
  f32 := Tryz.func91.trans (congrArg some (by kernel_rfl))
  f33 := ⟨Tryz.f92.name, by decide, Tryz.func92.trans (congrArg some (by kernel_rfl))⟩
  f34 := ⟨Tryz.f93.name, by decide, Tryz.func93.trans (congrArg some (by kernel_rfl))⟩
  f35 := ⟨Tryz.f94.name, by decide, Tryz.func94.trans (congrArg some (by kernel_rfl))⟩
  f40 := ⟨Tryz.f133.name, by decide, Tryz.func133.trans (congrArg some (by kernel_rfl))⟩
  t0 := Tryz.underlying0
  a0 := Tryz.isAgg0
  z0 := Tryz.sizeOf0
  v0 := Tryz.zeroValue0
  t3 := Tryz.underlying3
  a3 := Tryz.isAgg3
  z3 := Tryz.sizeOf3
  v3 := Tryz.zeroValue3
  t4 := Tryz.underlying4
  a4 := Tryz.isAgg4
  z4 := Tryz.sizeOf4
  v4 := Tryz.zeroValue4
  t5 := Tryz.underlying5
  a5 := Tryz.isAgg5
  z5 := Tryz.sizeOf5
  v5 := Tryz.zeroValue5
  t9 := Tryz.underlying9
  a9 := Tryz.isAgg9
  z9 := Tryz.sizeOf9
  v9 := Tryz.zeroValue9
  t22 := Tryz.underlying35
  a22 := Tryz.isAgg35
  z22 := Tryz.sizeOf35
  v22 := Tryz.zeroValue35
  t23 := Tryz.underlying35
  a23 := Tryz.isAgg35
  z23 := Tryz.sizeOf35
  v23 := Tryz.zeroValue35
  t25 := Tryz.underlying3
  a25 := Tryz.isAgg3
  z25 := Tryz.sizeOf3
  v25 := Tryz.zeroValue3
  t32 := Tryz.underlying67
  a32 := Tryz.isAgg67
  z32 := Tryz.sizeOf67
  v32 := Tryz.zeroValue67
  t35 := Tryz.underlying104
  a35 := Tryz.isAgg104
  z35 := Tryz.sizeOf104
  v35 := Tryz.zeroValue104
  t36 := Tryz.underlying105
  a36 := Tryz.isAgg105
  z36 := Tryz.sizeOf105
  v36 := Tryz.zeroValue105
  t41 := Tryz.underlying110
  a41 := Tryz.isAgg110
  z41 := Tryz.sizeOf110
  v41 := Tryz.zeroValue110
  t44 := Tryz.underlying113
  a44 := Tryz.isAgg113
  z44 := Tryz.sizeOf113
  v44 := Tryz.zeroValue113
  t46 := Tryz.underlying100
  a46 := Tryz.isAgg100
  z46 := Tryz.sizeOf100
  v46 := Tryz.zeroValue100
  t53 := Tryz.underlying142
  a53 := Tryz.isAgg142
  z53 := Tryz.sizeOf142
  v53 := Tryz.zeroValue142
  t57 := Tryz.underlying146
  a57 := Tryz.isAgg146
  z57 := Tryz.sizeOf146
  v57 := Tryz.zeroValue146
  t63 := Tryz.underlying178
  a63 := Tryz.isAgg178
  z63 := Tryz.sizeOf178
  v63 := Tryz.zeroValue178
  t64 := Tryz.underlying179
  a64 := Tryz.isAgg179
  z64 := Tryz.sizeOf179
  v64 := Tryz.zeroValue179 }
def laySe_ren : Go.Shelf.Ren := ⟨fun | 16 => 87 | n => n, fun | 3 => 3 | 35 => 52 | 4 => 4 | 38 => 67 | n => n, fun | n => n⟩
theorem laySe : Go.Proofs.SlLaysO.n16 Tryz.prog laySe_ren := {
  mixed := by kernel_rfl
  f16 := Tryz.func87.trans (congrArg some (by kernel_rfl))
  t3 := Tryz.underlying3
  a3 := Tryz.isAgg3
  z3 := Tryz.sizeOf3
  v3 := Tryz.zeroValue3
  t4 := Tryz.underlying4
  a4 := Tryz.isAgg4
  z4 := Tryz.sizeOf4
  v4 := Tryz.zeroValue4
  t35 := Tryz.underlying52
  a35 := Tryz.isAgg52
  z35 := Tryz.sizeOf52
  v35 := Tryz.zeroValue52
  t38 := Tryz.underlying67
  a38 := Tryz.isAgg67
  z38 := Tryz.sizeOf67
  v38 := Tryz.zeroValue67 }
end Go.Proofs.YthabgdbhgcgemaaGreatDoor
