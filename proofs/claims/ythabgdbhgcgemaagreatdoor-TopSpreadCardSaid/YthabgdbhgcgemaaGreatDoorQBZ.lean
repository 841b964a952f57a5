import Derived.Test.YthabgdbhgcgemaaGreatDoorQBY
namespace Go.Proofs.YthabgdbhgcgemaaGreatDoor
set_option linter.unusedVariables false
set_option linter.unusedSimpArgs false
open Go Go.RowKit
open Enc (enc)
set_option maxRecDepth 20000
def atC (h t : Int) (c : CopyV) : Bool := decide (c.host = h) && (decide (c.frm ≤ t) && decide (t < c.til))
theorem find_copyC (h t : Int) : ∀ l : List CopyV, (l.find? (atC h t)).map copyC = (l.map copyC).find? fun s => decide (s.1 = h) && (decide (s.2.1 ≤ t) && decide (t < s.2.2.1))
  | [] => rfl
  | x :: l => by
    have hx : (fun s : Int × Int × Int × ZoneC => decide (s.1 = h) && (decide (s.2.1 ≤ t) && decide (t < s.2.2.1))) (copyC x) = atC h t x := rfl
    rw [List.map_cons, List.find?_cons, List.find?_cons]
    cases hc : atC h t x with
    | true => rw [hc] at hx; simp only [hx]; rfl
    | false => rw [hc] at hx; simp only [hx]; exact find_copyC h t l
def servedZ (h t : Int) (l : List CopyV) : ZoneV × Bool := match l.find? (atC h t) with
  | some c => (c.zone, true)
  | none => (ZoneV.nil, false)
theorem find_drop_step {α : Type} (p : α → Bool) (l : List α) (k : Nat) (hk : k < l.length) (h : l.find? p = (l.drop k).find? p) : (p l[k] = true → l.find? p = some l[k]) ∧ (p l[k] = false → l.find? p = (l.drop (k + 1)).find? p) := by
  rw [h, List.drop_eq_getElem_cons hk, List.find?_cons]
  constructor
  · intro h1; rw [h1]
  · intro h1; rw [h1]
section
variable {H : Hp} {w : World}
set_option maxHeartbeats 8000000 in
theorem c_r7Serving (c : Slc CopyV) (h t : Int) (hs : Sat H w) (hg : c.Good H) : Calls Tryz.prog 9 #[c.v, intV h, intV t] w (Ret w (.tuple #[.agg (enc (servedZ h t c.els).1).toArray, .bool (servedZ h t c.els).2])) := by
  have hlen := hg.len
  have hlim := hg.lim
  refine T.enter (vs := [c.v, intV h, intV t]) (H := H) Tryz.func9 rfl rfl rfl hs ?_
  repeat (any_goals (first | refine T.seq ?_ | refine T.region ?_ | refine TL.nil ?_ | refine N.next ?_ | refine T.block ?_ | (apply TL.x; rfl; rfl; (apply X.alloc (d := 6); rfl; rfl; rfl); intro b6 _) | (apply TL.val; rfl; rfl; (first | exact vpure | exact vread))))
  refine T.loop (G := Nat) (fun k => [(0, c.v), (1, intV h), (2, intV t), (6, .pointer (some ⟨b6, 0, none⟩)), (10, c.v), (11, intV c.len), (12, intV k)]) (fun _ => H) (fun _ => [.blk b6 32 (enc ZoneV.nil)]) (fun k => k ≤ c.len ∧ c.els.find? (atC h t) = (c.els.drop k).find? (atC h t)) (fun k => c.len - k) 0 ⟨Nat.zero_le _, by rw [List.drop_zero]⟩ (by (repeat (first | exact True.intro | refine ⟨rfl, ?_⟩ | refine Sub.int rfl (by omega) ?_))) rfl (by (repeat (first | exact List.Sublist.refl _ | exact List.nil_sublist _ | apply List.Sublist.cons_cons | apply List.Sublist.cons))) ?_
  rintro k ⟨hk, hf⟩
  by_cases hlt : k < c.len
  · have hkl : k < c.els.length := by omega
    have hrow := hg.row (k := k) hlt
    have hstep := find_drop_step (atC h t) c.els k hkl hf
    obtain ⟨x, hx⟩ : ∃ x, c.els[k]'hkl = x := ⟨_, rfl⟩
    rw [hx] at hrow hstep
    obtain ⟨hy, hn⟩ := hstep
    unfold atC at hy hn
    repeat (any_goals (first | refine T.seq ?_ | refine T.region ?_ | refine TL.nil ?_ | refine N.next ?_ | refine N.inBlock ?_ | refine N.exit_same ?_ | refine N.exit_then ?_ | refine N.ret_then ?_ | refine N.ret_block ?_ | refine T.ret ?_ | refine T.skip ?_ | refine T.exit ?_ | refine T.block ?_ | (apply T.cond_false; rfl) | (apply T.test; rfl; (exact isx); intro _; rotate_left; intro _; rotate_right) | (apply TL.skip; rfl; rfl; rfl) | (apply TL.val; rfl; rfl; (apply V.elem (j := k); (iterate 6 rfl); omega; exact hg.at_ (by omega))) | (apply TL.val; rfl; rfl; (apply V.load_H_row; rfl; rfl; rfl; exact hrow; rfl)) | (apply TL.x; rfl; rfl; (apply X.alloc (d := 9); rfl; rfl; rfl); intro b9 _) | (apply TL.x; rfl; rfl; (apply X.storeTo 0 (enc x); (iterate 10 rfl)); intro _ _) | (apply TL.val; rfl; rfl; (first | exact vpure | exact vread)) | (apply TL.x; rfl; rfl; (first | exact xgrow | exact xput); intro _ _) | (apply TL.guard; rfl; rfl; rfl; (exact isx); intro _; rotate_left; intro _; rotate_right)))
    all_goals (try contradiction)
    all_goals (try (exfalso; omega))
    all_goals first
      | (refine N.round (k + 1) ⟨by omega, hn ?_⟩ (by show c.len - (k + 1) < c.len - k; omega) (by (repeat (first | exact True.intro | refine ⟨rfl, ?_⟩ | refine Sub.int rfl (by omega) ?_))) rfl (by (repeat (first | exact List.Sublist.refl _ | exact List.nil_sublist _ | apply List.Sublist.cons_cons | apply List.Sublist.cons)))
         simp [*]; done)
      | (refine N.ret2 rfl (by (exact rvx)) (by (exact rvx)) fun w1 hst => ⟨?_, hst.below⟩
         have hh : servedZ h t c.els = (x.zone, true) := by
           unfold servedZ
           have := hy (by simp [*])
           unfold atC
           rw [this]
         rw [hh]; rfl)
      | trace_state
  · rw [List.drop_of_length_le (by omega)] at hf
    have hh : servedZ h t c.els = (ZoneV.nil, false) := by
      unfold servedZ; rw [hf]; rfl
    repeat (any_goals (first | refine T.seq ?_ | refine T.region ?_ | refine TL.nil ?_ | refine N.next ?_ | refine N.inBlock ?_ | refine N.exit_same ?_ | refine N.exit_then ?_ | refine N.ret_then ?_ | refine N.ret_block ?_ | refine T.ret ?_ | refine T.skip ?_ | refine T.exit ?_ | refine T.block ?_ | (apply T.cond_false; rfl) | (apply T.test; rfl; (exact isx); intro _; rotate_left; intro _; rotate_right) | (apply TL.skip; rfl; rfl; rfl) | (apply TL.val; rfl; rfl; (apply V.build; (iterate 6 rfl))) | (apply TL.x; rfl; rfl; (apply X.storeTo 0 (enc ZoneV.nil); (iterate 10 rfl)); intro _ _) | (apply TL.val; rfl; rfl; (first | exact vpure | exact vread)) | (apply TL.x; rfl; rfl; (first | exact xgrow | exact xput); intro _ _) | (apply TL.guard; rfl; rfl; rfl; (exact isx); intro _; rotate_left; intro _; rotate_right)))
    all_goals (try (exfalso; omega))
    exact N.ret2 rfl (by (exact rvx)) (by (exact rvx)) fun w1 hst => ⟨by rw [hh], hst.below⟩
end
end Go.Proofs.YthabgdbhgcgemaaGreatDoor
