/- Plain laws: nets. -/
import Derived.Test.YteehdjpjhdmldaaDoorSpec2
namespace Go.Proofs.YteehdjpjhdmldaaDoor
set_option linter.unusedVariables false
set_option linter.unusedSimpArgs false
open Go
def netLe (a b : TransitC) : Bool := decide (a.at_ < b.at_ ∨ (a.at_ = b.at_ ∧ a.seq ≤ b.seq))
def transitOK (s : Int) (t : TransitC) : Bool := decide (0 ≤ t.at_ ∧ t.at_ ≤ 20000000) && decide (0 ≤ t.seq ∧ t.seq < s) && msgOK t.m
def nodupI : List Int → Bool
  | [] => true
  | x :: l => !l.contains x && nodupI l
def netOK (n : NetC) : Bool := decide (0 ≤ n.seq ∧ n.seq ≤ 1000000000) && decide (n.list.length ≤ 200) && n.list.all (transitOK n.seq) && chain netLe n.list && nodupI (n.list.map (·.seq))
theorem nodupI_iff : ∀ l : List Int, nodupI l = true ↔ l.Nodup
  | [] => by simp [nodupI]
  | x :: l => by rw [nodupI, Bool.and_eq_true, nodupI_iff l]; simp
/-- The first k packets are in order. -/
def NetTo (s : Int) (l : List TransitC) (k : Nat) : Prop := ∀ j (h : j < l.length), j < k → transitOK s l[j] = true ∧ (0 < j → netLe (l[j - 1]'(by omega)) l[j] = true) ∧ ∀ i (hi : i < j), (l[i]'(by omega)).seq ≠ l[j].seq
theorem nodup_iff (l : List Int) : l.Nodup ↔ ∀ j (h : j < l.length) i (hi : i < j), l[i]'(by omega) ≠ l[j] := by
  rw [List.Nodup, List.pairwise_iff_getElem]
  constructor
  · intro h j hj i hi; exact h i j (by omega) hj hi
  · intro h i j hi hj hij; exact h j hj i hij
theorem netTo_iff (s : Int) (l : List TransitC) : (l.all (transitOK s) && chain netLe l && nodupI (l.map (·.seq))) = true ↔ NetTo s l l.length := by
  rw [Bool.and_eq_true, Bool.and_eq_true, chain_iff, List.all_eq_true, nodupI_iff, nodup_iff]
  constructor
  · rintro ⟨⟨h1, h2⟩, h3⟩ j hj _
    refine ⟨h1 _ (List.getElem_mem _), h2 j hj, fun i hi => ?_⟩
    have := h3 j (by simpa using hj) i hi
    simpa using this
  · intro h
    refine ⟨⟨fun x hx => ?_, fun j hj => (h j hj hj).2.1⟩, fun j hj i hi => ?_⟩
    · obtain ⟨j, hj, rfl⟩ := List.mem_iff_getElem.1 hx
      exact (h j hj hj).1
    · have := (h j (by simpa using hj) (by simpa using hj)).2.2 i hi
      simpa using this
theorem netOK_eq (n : NetC) : netOK n = (decide (0 ≤ n.seq ∧ n.seq ≤ 1000000000 ∧ n.list.length ≤ 200) && (n.list.all (transitOK n.seq) && chain netLe n.list && nodupI (n.list.map (·.seq)))) := by
  unfold netOK
  simp only [dec_and, Bool.and_assoc]
theorem netOK_iff (n : NetC) : netOK n = true ↔ (0 ≤ n.seq ∧ n.seq ≤ 1000000000 ∧ n.list.length ≤ 200) ∧ NetTo n.seq n.list n.list.length := by
  rw [netOK_eq, Bool.and_eq_true, netTo_iff, decide_eq_true_iff]
theorem netOK_no {n : NetC} (h : ¬ (0 ≤ n.seq ∧ n.seq ≤ 1000000000 ∧ n.list.length ≤ 200)) : netOK n = false := Bool.eq_false_iff.2 fun h' => h ((netOK_iff n).1 h').1
theorem netOK_noAt {n : NetC} {k : Nat} (hk : k < n.list.length) (h : ¬ (transitOK n.seq n.list[k] = true ∧ (0 < k → netLe (n.list[k - 1]'(by omega)) n.list[k] = true) ∧ ∀ i (hi : i < k), (n.list[i]'(by omega)).seq ≠ n.list[k].seq)) : netOK n = false :=
  Bool.eq_false_iff.2 fun h' => h (((netOK_iff n).1 h').2 k hk hk)
theorem netTo_up {s : Int} {l : List TransitC} {k : Nat} (hk : k < l.length) (h : NetTo s l k) (h1 : transitOK s l[k] = true ∧ (0 < k → netLe (l[k - 1]'(by omega)) l[k] = true) ∧ ∀ i (hi : i < k), (l[i]'(by omega)).seq ≠ l[k].seq) : NetTo s l (k + 1) := fun j hj hjk => by
  by_cases e : j = k
  · subst e; exact h1
  · exact h j hj (by omega)
structure FateC where
  lost : Bool
  delay : Int
  copies : Int
  forge : Int
  deriving DecidableEq
def fateOK (f : FateC) (kind : Int) : Bool := decide (0 ≤ f.delay ∧ f.delay ≤ 100000) && decide (1 ≤ f.copies ∧ f.copies ≤ 8) && decide (0 ≤ f.forge ∧ f.forge ≤ 3) && (decide (f.forge ≠ 3) || decide (kind = 2))
def travelsC (m : MsgC) (forge : Int) : MsgC :=
  if forge = 1 then { m with id := (m.id + 1).tmod 65536 } else if forge = 2 then { m with frm := m.frm.tmod 1000000 + 1 } else if forge = 3 then { m with ans := ⟨6, [], []⟩ } else m
def copiesC (m : MsgC) (at_ s : Int) (k : Nat) : List TransitC := (List.range k).map fun (i : Nat) => ⟨at_, s + (i : Int), m⟩
def netNil : NetC := ⟨0, []⟩
def sendC (n : NetC) (m : MsgC) (now : Int) (f : FateC) : NetC × Int :=
  if !(netOK n && msgOK m && decide (0 ≤ now ∧ now ≤ 20000000) && fateOK f m.kind) then (netNil, 1) else
  if f.lost then (n, 0) else
  if 20000000 < now + f.delay ∨ 1000000000 < n.seq + f.copies then (netNil, 2) else
  if 200 < (n.list.length : Int) + f.copies then (netNil, 41) else
  (⟨n.seq + f.copies, n.list.takeWhile (fun t => decide (t.at_ ≤ now + f.delay)) ++ copiesC (travelsC m f.forge) (now + f.delay) n.seq f.copies.toNat ++ n.list.dropWhile (fun t => decide (t.at_ ≤ now + f.delay))⟩, 0)
def hitC (addr now : Int) (t : TransitC) : Bool := decide (t.m.to = addr) && decide (t.at_ ≤ now)
def receiveC (n : NetC) (addr now : Int) : NetC × List MsgC × Int :=
  if !(netOK n && decide (1 ≤ addr ∧ addr ≤ 1000000) && decide (0 ≤ now ∧ now ≤ 20000000)) then (netNil, [], 1) else
  (⟨n.seq, n.list.filter fun t => !hitC addr now t⟩, (n.list.filter (hitC addr now)).map (·.m), 0)
def fewM (m : MsgC) : Bool := m.ans.sets.all (fun s => decide (s.set.data.length ≤ 20) && decide (s.sigs.length ≤ 20) && decide (s.set.name.length ≤ 200)) && decide (m.ans.sets.length ≤ 50) && decide (m.q.name.length ≤ 200) && decide (m.ans.cut.length ≤ 200)
def fewN (n : NetC) : Bool := n.list.all (fun t => fewM t.m) && decide (n.list.length ≤ 210)
end Go.Proofs.YteehdjpjhdmldaaDoor
