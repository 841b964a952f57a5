/- Walks: prefetch.Due. -/
import Derived.Test.YtogcofeencgipaaGreatDoorZQI
namespace Go.Proofs.YtogcofeencgipaaGreatDoor
set_option linter.unusedVariables false
set_option linter.unusedSimpArgs false
open Go Go.RowKit
open Enc (enc)
set_option maxRecDepth 20000
theorem c_IndexQ (s : Slc Question) (x : Question) (H : Hp) (w : World) (hs : Sat H w) (hg : s.Good H) (hx : Enc.good H x) : Calls Tryz.prog 134 #[s.v, .agg (enc x).toArray] w (Ret w (intV (indexC (fun y => decide (x = y)) s.els))) := by
  have hlen := hg.len
  have hlim := hg.lim
  refine T.enter (vs := [s.v, .agg (enc x).toArray]) (H := H) Tryz.func134 rfl rfl rfl hs ?_
  repeat (any_goals (first | refine T.seq ?_ | refine T.region ?_ | (apply T.regionD wide; rfl) | refine TL.nil ?_ | refine N.next ?_ | refine N.inBlock ?_ | refine N.exit_same ?_ | refine N.exit_then ?_ | refine N.ret_then ?_ | refine N.ret_block ?_ | (apply N.exit_other; rfl) | refine T.ret ?_ | refine T.skip ?_ | refine T.exit ?_ | refine T.block ?_ | (apply T.cond_true; rfl) | (apply T.cond_false; rfl) | (apply T.test; rfl; (with_reducible (first | exact Is.ndec | exact Is.dec | exact Is.not | ((fail_if_success exact Is.litT); (fail_if_success exact Is.litF); exact Is.base))); intro _; rotate_left; intro _; rotate_right) | (apply TL.skip; rfl; rfl; rfl) | (apply TL.skip_none; rfl; rfl) | (apply GT.skip; rfl; rfl; rfl; decide +kernel) | (apply TL.x; rfl; rfl; (apply X.box (d := 3); rfl; rfl; rfl); intro b3 _) | (apply TL.val; rfl; rfl; (first | exact vpure | exact vread)) | (apply GT.pure; rfl; rfl; rfl; rfl; (first | exact vpure); decide +kernel) | (apply GT.read; rfl; rfl; rfl; rfl; (first | exact vpure | exact vread); decide +kernel) | (apply GT.done; decide +kernel; apply N.ofQ) | (apply GT.adv; rfl) | (apply TL.x; rfl; rfl; (first | exact xgrow | exact xput); intro _ _) | (apply GS.grow; rfl; rfl; (first | exact xgrow); intro _ _) | (apply GS.eff; rfl; decide +kernel; rfl; (first | exact xput); intro _ _) | (apply TL.guard; rfl; rfl; rfl; (with_reducible (first | exact Is.ndec | exact Is.dec | exact Is.not | ((fail_if_success exact Is.litT); (fail_if_success exact Is.litF); exact Is.base))); intro _; rotate_left; intro _; rotate_right) | (apply GT.guard; rfl; rfl; rfl; rfl; (with_reducible (first | exact Is.ndec | exact Is.dec | exact Is.not | ((fail_if_success exact Is.litT); (fail_if_success exact Is.litF); exact Is.base))); intro _; rotate_left; intro _; rotate_right) | (apply GT.fork1; decide +kernel) | (apply GT.fork2 1; decide +kernel) | (apply GT.fork2 2; decide +kernel) | (apply GT.fork2 3; decide +kernel) | (apply GT.fork2 4; decide +kernel) | (apply GT.fork2 5; decide +kernel) | (apply GT.fork2 6; decide +kernel) | (apply GT.fork2 7; decide +kernel) | (apply GT.fork2 8; decide +kernel) | (apply GT.fork2 9; decide +kernel) | (apply GT.fork2 10; decide +kernel) | (apply GT.fork2 11; decide +kernel) | (apply GT.fork2 12; decide +kernel) | (apply GT.fork2 13; decide +kernel) | (apply GT.fork2 14; decide +kernel) | (apply GT.fork2 15; decide +kernel) | (apply GT.fork2 16; decide +kernel) | (apply GT.fork2 17; decide +kernel) | (apply GT.fork2 18; decide +kernel) | (apply GT.fork2 19; decide +kernel) | (apply GT.fork2 20; decide +kernel) | (apply GT.fork2 21; decide +kernel) | (apply GT.fork2 22; decide +kernel) | (apply GT.fork2 23; decide +kernel)))
  refine T.loop (G := Nat) (fun k => [(0, s.v), (3, .pointer (some ⟨b3, 0, none⟩)), (6, s.v), (7, intV s.len), (8, intV k)]) (fun _ => H) (fun _ => [.blk b3 23 (enc x)]) (fun k => k ≤ s.len ∧ ∀ j (hj : j < s.els.length), j < k → decide (x = s.els[j]) = false) (fun k => s.len - k) 0 ⟨Nat.zero_le _, fun j _ h => by omega⟩ (by (repeat (first | exact True.intro | refine ⟨rfl, ?_⟩ | refine Sub.int rfl (by omega) ?_))) rfl (by (first | exact List.Sublist.refl _ | exact List.nil_sublist _ | exact List.Sublist.cons _ (List.Sublist.refl _) | exact List.Sublist.cons _ (List.Sublist.cons _ (List.Sublist.refl _)))) ?_
  rintro k ⟨hk, hrel⟩
  by_cases hlt : k < s.len
  · have hkl : k < s.els.length := by omega
    repeat (any_goals (first | refine T.seq ?_ | refine T.region ?_ | (apply T.regionD wide; rfl) | refine TL.nil ?_ | refine N.next ?_ | refine N.inBlock ?_ | refine N.exit_same ?_ | refine N.exit_then ?_ | refine N.ret_then ?_ | refine N.ret_block ?_ | (apply N.exit_other; rfl) | refine T.ret ?_ | refine T.skip ?_ | refine T.exit ?_ | refine T.block ?_ | (apply T.cond_true; rfl) | (apply T.cond_false; rfl) | (apply T.test; rfl; (with_reducible (first | exact Is.ndec | exact Is.dec | exact Is.not | ((fail_if_success exact Is.litT); (fail_if_success exact Is.litF); exact Is.base))); intro _; rotate_left; intro _; rotate_right) | (apply TL.skip; rfl; rfl; rfl) | (apply TL.skip_none; rfl; rfl) | (apply GT.skip; rfl; rfl; rfl; decide +kernel) | (apply GT.pure; rfl; rfl; rfl; rfl; (apply V.aeql (e := decide (x = s.els[k]'hkl)); rfl; rfl; exact Tryz.eqGuardType23; exact fun w => eq_Question x (s.els[k]'hkl) w); decide +kernel) | (apply TL.val; rfl; rfl; (first | exact vpure | exact vread)) | (apply GT.pure; rfl; rfl; rfl; rfl; (first | exact vpure); decide +kernel) | (apply GT.read; rfl; rfl; rfl; rfl; (first | exact vpure | exact vread); decide +kernel) | (apply GT.done; decide +kernel; apply N.ofQ) | (apply GT.adv; rfl) | (apply TL.x; rfl; rfl; (first | exact xgrow | exact xput); intro _ _) | (apply GS.grow; rfl; rfl; (first | exact xgrow); intro _ _) | (apply GS.eff; rfl; decide +kernel; rfl; (first | exact xput); intro _ _) | (apply TL.guard; rfl; rfl; rfl; (with_reducible (first | exact Is.ndec | exact Is.dec | exact Is.not | ((fail_if_success exact Is.litT); (fail_if_success exact Is.litF); exact Is.base))); intro _; rotate_left; intro _; rotate_right) | (apply GT.guard; rfl; rfl; rfl; rfl; (with_reducible (first | exact Is.ndec | exact Is.dec | exact Is.not | ((fail_if_success exact Is.litT); (fail_if_success exact Is.litF); exact Is.base))); intro _; rotate_left; intro _; rotate_right) | (apply GT.fork1; decide +kernel) | (apply GT.fork2 1; decide +kernel) | (apply GT.fork2 2; decide +kernel) | (apply GT.fork2 3; decide +kernel) | (apply GT.fork2 4; decide +kernel) | (apply GT.fork2 5; decide +kernel) | (apply GT.fork2 6; decide +kernel) | (apply GT.fork2 7; decide +kernel) | (apply GT.fork2 8; decide +kernel) | (apply GT.fork2 9; decide +kernel) | (apply GT.fork2 10; decide +kernel) | (apply GT.fork2 11; decide +kernel) | (apply GT.fork2 12; decide +kernel) | (apply GT.fork2 13; decide +kernel) | (apply GT.fork2 14; decide +kernel) | (apply GT.fork2 15; decide +kernel) | (apply GT.fork2 16; decide +kernel) | (apply GT.fork2 17; decide +kernel) | (apply GT.fork2 18; decide +kernel) | (apply GT.fork2 19; decide +kernel) | (apply GT.fork2 20; decide +kernel) | (apply GT.fork2 21; decide +kernel) | (apply GT.fork2 22; decide +kernel) | (apply GT.fork2 23; decide +kernel)))
    all_goals (try (exfalso; omega))
    all_goals first
      | (refine N.ret_int rfl (by (exact rvx)) ?_
         exact (indexC_at hkl hrel (by first | assumption | exact decide_eq_true (by assumption))).symm)
      | ((refine N.round (k + 1) ?_ ?_ ?_ ?_ ?_; rotate_left 2; (repeat (first | exact True.intro | refine ⟨rfl, ?_⟩ | refine Sub.int rfl (by omega) ?_)); rfl; (first | exact List.Sublist.refl _ | exact List.nil_sublist _ | exact List.Sublist.cons _ (List.Sublist.refl _) | exact List.Sublist.cons _ (List.Sublist.cons _ (List.Sublist.refl _))))
         · refine ⟨by omega, fun j hj hjk => ?_⟩
           by_cases e : j = k
           · subst e; first | assumption | exact decide_eq_false (by assumption)
           · exact hrel j hj (by omega)
         · omega)
  · repeat (any_goals (first | refine T.seq ?_ | refine T.region ?_ | (apply T.regionD wide; rfl) | refine TL.nil ?_ | refine N.next ?_ | refine N.inBlock ?_ | refine N.exit_same ?_ | refine N.exit_then ?_ | refine N.ret_then ?_ | refine N.ret_block ?_ | (apply N.exit_other; rfl) | refine T.ret ?_ | refine T.skip ?_ | refine T.exit ?_ | refine T.block ?_ | (apply T.cond_true; rfl) | (apply T.cond_false; rfl) | (apply T.test; rfl; (with_reducible (first | exact Is.ndec | exact Is.dec | exact Is.not | ((fail_if_success exact Is.litT); (fail_if_success exact Is.litF); exact Is.base))); intro _; rotate_left; intro _; rotate_right) | (apply TL.skip; rfl; rfl; rfl) | (apply TL.skip_none; rfl; rfl) | (apply GT.skip; rfl; rfl; rfl; decide +kernel) | (apply TL.val; rfl; rfl; (first | exact vpure | exact vread)) | (apply GT.pure; rfl; rfl; rfl; rfl; (first | exact vpure); decide +kernel) | (apply GT.read; rfl; rfl; rfl; rfl; (first | exact vpure | exact vread); decide +kernel) | (apply GT.done; decide +kernel; apply N.ofQ) | (apply GT.adv; rfl) | (apply TL.x; rfl; rfl; (first | exact xgrow | exact xput); intro _ _) | (apply GS.grow; rfl; rfl; (first | exact xgrow); intro _ _) | (apply GS.eff; rfl; decide +kernel; rfl; (first | exact xput); intro _ _) | (apply TL.guard; rfl; rfl; rfl; (with_reducible (first | exact Is.ndec | exact Is.dec | exact Is.not | ((fail_if_success exact Is.litT); (fail_if_success exact Is.litF); exact Is.base))); intro _; rotate_left; intro _; rotate_right) | (apply GT.guard; rfl; rfl; rfl; rfl; (with_reducible (first | exact Is.ndec | exact Is.dec | exact Is.not | ((fail_if_success exact Is.litT); (fail_if_success exact Is.litF); exact Is.base))); intro _; rotate_left; intro _; rotate_right) | (apply GT.fork1; decide +kernel) | (apply GT.fork2 1; decide +kernel) | (apply GT.fork2 2; decide +kernel) | (apply GT.fork2 3; decide +kernel) | (apply GT.fork2 4; decide +kernel) | (apply GT.fork2 5; decide +kernel) | (apply GT.fork2 6; decide +kernel) | (apply GT.fork2 7; decide +kernel) | (apply GT.fork2 8; decide +kernel) | (apply GT.fork2 9; decide +kernel) | (apply GT.fork2 10; decide +kernel) | (apply GT.fork2 11; decide +kernel) | (apply GT.fork2 12; decide +kernel) | (apply GT.fork2 13; decide +kernel) | (apply GT.fork2 14; decide +kernel) | (apply GT.fork2 15; decide +kernel) | (apply GT.fork2 16; decide +kernel) | (apply GT.fork2 17; decide +kernel) | (apply GT.fork2 18; decide +kernel) | (apply GT.fork2 19; decide +kernel) | (apply GT.fork2 20; decide +kernel) | (apply GT.fork2 21; decide +kernel) | (apply GT.fork2 22; decide +kernel) | (apply GT.fork2 23; decide +kernel)))
    all_goals (try (exfalso; omega))
    refine N.ret_int rfl (by (exact rvx)) ?_
    exact (indexC_no fun j hj => hrel j hj (by omega)).symm
theorem index_mem {x : Question} {l : List Question} : decide (0 ≤ indexC (fun y => decide (x = y)) l) = decide (x ∈ l) := by
  rw [decide_eq_decide]
  obtain ⟨hi, hn⟩ | ⟨k, hk, hi, hp, _⟩ := indexC_cases (fun y => decide (x = y)) l
  · rw [hi]
    refine ⟨fun h => by omega, fun h => ?_⟩
    have := hn x h
    simp at this
  · rw [hi]
    refine ⟨fun _ => ?_, fun _ => by omega⟩
    rw [of_decide_eq_true hp]; exact List.getElem_mem hk
theorem c_ContQ (s : Slc Question) (x : Question) (H : Hp) (w : World) (hs : Sat H w) (hg : s.Good H) (hx : Enc.good H x) : Calls Tryz.prog 79 #[s.v, .agg (enc x).toArray] w (Ret w (.bool (decide (x ∈ s.els)))) := by
  refine T.enter (vs := [s.v, .agg (enc x).toArray]) (H := H) Tryz.func79 rfl rfl rfl hs ?_
  repeat (any_goals (first | refine T.seq ?_ | refine T.region ?_ | refine TL.nil ?_ | refine N.next ?_ | refine N.inBlock ?_ | refine N.exit_same ?_ | refine N.exit_then ?_ | refine N.ret_then ?_ | refine N.ret_block ?_ | (apply N.exit_other; rfl) | refine T.ret ?_ | refine T.skip ?_ | refine T.exit ?_ | refine T.block ?_ | (apply T.cond_true; rfl) | (apply T.cond_false; rfl) | (apply T.test; rfl; (with_reducible (first | exact Is.ndec | exact Is.dec | exact Is.not | ((fail_if_success exact Is.litT); (fail_if_success exact Is.litF); exact Is.base))); intro _; rotate_left; intro _; rotate_right) | (apply TL.skip; rfl; rfl; rfl) | (apply TL.skip_none; rfl; rfl) | (apply TL.callE (f := 134) [s.v, .agg (enc x).toArray] Tryz.call134; rfl; rfl; rfl; rfl; (exact fun _ hs => c_IndexQ s x _ _ hs.sat hg hx)) | (apply TL.val; rfl; rfl; (first | exact vpure | exact vread)) | (apply TL.x; rfl; rfl; (first | exact xgrow | exact xput); intro _ _) | (apply TL.guard; rfl; rfl; rfl; (with_reducible (first | exact Is.ndec | exact Is.dec | exact Is.not | ((fail_if_success exact Is.litT); (fail_if_success exact Is.litF); exact Is.base))); intro _; rotate_left; intro _; rotate_right)))
  all_goals (try (first | (apply N.ret_bool; rfl; (exact rvx)) | (apply N.ret_int; rfl; (exact rvx)) | (apply N.ret_val; rfl; (exact rvx))))
  exact index_mem
theorem c_ContRowQ {els : List Question} {w0 w : World} {H0 H : Hp} {L : List Loc} {v : Value} {m : Nat} {b : Bool} (x : Question) (hb : decide (x ∈ els) = b) (hs : St w0 H0 H L w) (hm : List.Sublist [.row v 23 2 m (encs els)] L) (hl : els.length = m) (hg : ∀ x ∈ els, Enc.good H x) (hx : Enc.good H x) : Calls Tryz.prog 79 #[v, .agg (enc x).toArray] w (Ret w (.bool b)) := by
  obtain ⟨H', s, h1, h2, h3, h4, h5⟩ := (hs.sub hm).freezeRow rfl hl hg
  have := c_ContQ s x H' w h5.sat h3 (Enc.mono h4 hx)
  rw [h1, h2, hb] at this
  exact this
def qOf (e : EntryC) : Question := ⟨e.signed.set.name, e.signed.set.typ⟩
/-- An entry is due. -/
def dueE (uses : List Use) (now early often : Int) (e : EntryC) : Bool := !denial e && decide (now < e.til) && !decide (now + early < e.til) && (match timesOf uses (qOf e) with
  | some n => decide (often ≤ n)
  | none => false)
def dueStep (uses : List Use) (now early often : Int) (l : List Question) (e : EntryC) : List Question := if dueE uses now early often e && !decide (qOf e ∈ l) then l ++ [qOf e] else l
def dueL (uses : List Use) (now early often : Int) (c : List EntryC) : List Question := c.foldl (dueStep uses now early often) []
def dueC (c : List EntryC) (uses : List Use) (now early often : Int) : List Question × Int :=
  if !(usesOK uses && cacheOK c && isT now && decide (0 ≤ early ∧ early ≤ 1000000 ∧ 0 ≤ often ∧ often ≤ 1000000)) then ([], 1) else (dueL uses now early often c, 0)
def QsR (w : World) (H : Hp) (r : List Question × Int) : Ending → World → Prop := RetF w H (fun g : Hp × Slc Question => g.2.els = r.1 ∧ g.2.Good g.1) (fun g => .tuple #[g.2.v, intV r.2]) (fun g => g.1)
theorem qs_end {w0 w : World} {H0 H : Hp} {L : List Loc} {v : Value} {n : Nat} {els : List Question} {r : List Question × Int} {z : Int} (hst : St w0 H0 H L w) (hsub : List.Sublist [.row v 23 2 n (encs els)] L) (hl : els.length = n) (hg : ∀ x ∈ els, Enc.good H x) (hr : r = (els, z)) : QsR w0 H0 r (.returned (.tuple #[v, intV z])) w := by
  subst hr
  obtain ⟨H', s, h1, h2, h3, h4, h5⟩ := (hst.sub hsub).freezeRow rfl hl hg
  exact ⟨(H', s), ⟨h2, h3⟩, by rw [← h1], h5.fresh⟩
set_option maxHeartbeats 8000000 in
theorem c_Due (c : Cache) (uses : Slc Use) (now early often : Int) (H : Hp) (w : World) (hs : Sat H w) (hR : Rules H) (hg : Enc.good H c) (hu : uses.Good H) (hnow : I64 now) (hea : I64 early) (hof : I64 often) : Calls Tryz.prog 27 #[.agg (enc c).toArray, uses.v, intV now, intV early, intV often] w (QsR w H (dueC c.c uses.els now early often)) := by
  have hlen := hu.len
  refine T.enter (vs := [.agg (enc c).toArray, uses.v, intV now, intV early, intV often]) (H := H) Tryz.func27 rfl rfl rfl hs ?_
  cases h1 : usesOK uses.els with
  | false =>
    have he : dueC c.c uses.els now early often = ([], 1) := by unfold dueC; rw [h1]; rfl
    rw [he]
    repeat (any_goals (first | refine T.seq ?_ | refine T.region ?_ | refine TL.nil ?_ | refine N.next ?_ | refine N.inBlock ?_ | refine N.exit_same ?_ | refine N.exit_then ?_ | refine N.ret_then ?_ | refine N.ret_block ?_ | (apply N.exit_other; rfl) | refine T.ret ?_ | refine T.skip ?_ | refine T.exit ?_ | refine T.block ?_ | (apply T.cond_true; rfl) | (apply T.cond_false; rfl) | (apply T.test; rfl; (with_reducible (first | exact Is.ndec | exact Is.dec | exact Is.not | ((fail_if_success exact Is.litT); (fail_if_success exact Is.litF); exact Is.base))); intro _; rotate_left; intro _; rotate_right) | (apply TL.skip; rfl; rfl; rfl) | (apply TL.skip_none; rfl; rfl) | (apply TL.callE (f := 76) [uses.v] Tryz.call76; rfl; rfl; rfl; rfl; (exact fun _ hs => c_countsF uses _ _ hs.sat hu h1)) | (apply TL.val; rfl; rfl; (first | exact vpure | exact vread)) | (apply TL.x; rfl; rfl; (first | exact xgrow | exact xput); intro _ _) | (apply TL.guard; rfl; rfl; rfl; (with_reducible (first | exact Is.ndec | exact Is.dec | exact Is.not | ((fail_if_success exact Is.litT); (fail_if_success exact Is.litF); exact Is.base))); intro _; rotate_left; intro _; rotate_right)))
    all_goals (try contradiction)
    all_goals exact N.ret2 rfl (by (exact rvx)) (by (exact rvx)) fun w hst => ⟨(_, Slc.nil _), ⟨rfl, Slc.nil_good⟩, rfl, hst.fresh⟩
  | true =>
  by_cases hb : cacheOK c.c = true ∧ isT now = true ∧ (0 ≤ early ∧ early ≤ 1000000 ∧ 0 ≤ often ∧ often ≤ 1000000)
  · obtain ⟨b1, b2, b3, b4, b5, b6⟩ := hb
    have he : dueC c.c uses.els now early often = (dueL uses.els now early often c.c, 0) := by
      unfold dueC; rw [h1, b1, b2, decide_eq_true ⟨b3, b4, b5, b6⟩]; rfl
    rw [he]
    have hT := b2
    unfold isT at hT
    rw [decide_eq_true_eq] at hT
    have hv1 : ∀ {w : World} {H1 : Hp}, H.le H1 → Sat H1 w → Calls Tryz.prog 44 #[.agg (enc c).toArray] w (Ret w (.bool true)) := fun hle hs => c_validV c b1 hs (hR.mono hle) (Enc.mono hle hg)
    have hv2 : ∀ {w : World} {H : Hp}, Sat H w → Calls Tryz.prog 77 #[intV now] w (Ret w (.bool true)) := fun hs => b2 ▸ c_ptime now _ _ hs
    have hcl := cache_len hg b1
    have g8 : c.list.Good H := hg
    have hcn : c.list.els.length = c.list.len := g8.len
    have hcm := g8.lim
    repeat (any_goals (first | refine T.seq ?_ | refine T.region ?_ | refine TL.nil ?_ | refine N.next ?_ | refine N.inBlock ?_ | refine N.exit_same ?_ | refine N.exit_then ?_ | refine N.ret_then ?_ | refine N.ret_block ?_ | (apply N.exit_other; rfl) | refine T.ret ?_ | refine T.skip ?_ | refine T.exit ?_ | refine T.block ?_ | (apply T.cond_true; rfl) | (apply T.cond_false; rfl) | (apply T.test; rfl; (with_reducible (first | exact Is.ndec | exact Is.dec | exact Is.not | ((fail_if_success exact Is.litT); (fail_if_success exact Is.litF); exact Is.base))); intro _; rotate_left; intro _; rotate_right) | (apply TL.skip; rfl; rfl; rfl) | (apply TL.skip_none; rfl; rfl) | (apply TL.x; rfl; rfl; (apply X.box (d := 5); rfl; rfl; rfl); intro g5 _) | (apply TL.x; rfl; rfl; (apply X.callFE (f := 76) [uses.v] Tryz.call76; rfl; rfl; rfl; exact (fun _ hs => c_countsT uses _ _ hs.sat hu h1)); intro p hp; obtain ⟨⟨m, hm1, hm2⟩, hle1⟩ := hp; have g9 := g8.mono hle1) | (apply TL.callE (f := 44) [.agg (enc c).toArray] Tryz.call44; rfl; rfl; rfl; rfl; (exact fun _ hs => hv1 hle1 hs.sat)) | (apply TL.callE (f := 77) [intV now] Tryz.call77; rfl; rfl; rfl; rfl; (exact fun _ hs => hv2 hs.sat)) | (apply TL.val; rfl; rfl; (first | exact vpure | exact vread)) | (apply TL.x; rfl; rfl; (first | exact xgrow | exact xput); intro _ _) | (apply TL.guard; rfl; rfl; rfl; (with_reducible (first | exact Is.ndec | exact Is.dec | exact Is.not | ((fail_if_success exact Is.litT); (fail_if_success exact Is.litF); exact Is.base))); intro _; rotate_left; intro _; rotate_right)))
    all_goals (try contradiction)
    all_goals (try (exfalso; omega))
    refine T.nilRow 23 2 ?_
    refine T.loop (G := List Question × Value × Nat) (fun g => [(2, intV now), (3, intV early), (4, intV often), (12, .map (some p.2)), (14, .func (.func 78) #[] #[]), (15, g.2.1), (54, c.list.v), (55, intV c.list.len), (56, intV g.2.2)]) (fun _ => p.1) (fun g => [.row g.2.1 23 2 g.1.length (encs g.1)]) (fun g => g.2.2 ≤ c.list.len ∧ g.1.length ≤ g.2.2 ∧ (∀ y ∈ g.1, Enc.good p.1 y) ∧ g.1 = (c.c.take g.2.2).foldl (dueStep uses.els now early often) []) (fun g => c.list.len - g.2.2) ([], .slice none 0 0, 0) ⟨Nat.zero_le _, Nat.le_refl _, by simp, rfl⟩ (by (repeat (first | exact True.intro | refine ⟨rfl, ?_⟩ | refine Sub.int rfl (by omega) ?_))) rfl (by (repeat (first | exact List.Sublist.refl _ | exact List.nil_sublist _ | apply List.Sublist.cons_cons | apply List.Sublist.cons))) ?_
    rintro ⟨ys, yv, i⟩ ⟨hi, hyl, hyg, hys⟩
    simp only at hi hyl hyg hys ⊢
    by_cases hlt : i < c.list.len
    · have hk2 : i < c.list.els.length := by omega
      have hx := g9.els _ (List.getElem_mem hk2)
      have hE : c.c.take (i + 1) = c.c.take i ++ [(c.list.els[i]'hk2).c] := by
        show (c.list.els.map Entry.c).take (i + 1) = (c.list.els.map Entry.c).take i ++ _
        rw [List.take_add_one, List.getElem?_map, List.getElem?_eq_getElem hk2]; rfl
      generalize hee : c.list.els[i]'hk2 = e at hE hx
      have hEn : enc (c.list.els[i]'hk2) = enc e := by rw [hee]
      have hqe : Enc.good p.1 (qOf e.c) := ⟨hx.1.1.1, hx.1.1.2.1⟩
      have hden : denial e.c = decide (e.signed.set.data.len = 0) := by
        unfold denial
        rw [decide_eq_decide, ← hx.1.1.2.2.2.len]
        exact (List.length_eq_zero_iff).symm
      have hst : ∀ b : Bool, (dueE uses.els now early often e.c && !decide (qOf e.c ∈ ys)) = b → (c.c.take (i + 1)).foldl (dueStep uses.els now early often) [] = if b then ys ++ [qOf e.c] else ys := fun b hb => by
        rw [hE, List.foldl_append, ← hys, List.foldl_cons, List.foldl_nil]
        unfold dueStep; rw [hb]
      have hU : ∀ (x : Int) {w : World} {H : Hp}, Sat H w → Calls Tryz.prog 78 (#[] ++ [Value.agg (enc e).toArray, intV x].toArray ++ #[]) w (Ret w (.bool (decide (x < e.til)))) := fun x _ _ hs => c_pusable e x _ _ hs
      have hgm := hm2 (qOf e.c)
      obtain ⟨f, hf⟩ : ∃ f, timesOf uses.els (qOf e.c) = f := ⟨_, rfl⟩
      rw [hf] at hgm
      obtain ⟨n, hn⟩ : ∃ n, (f.map intV).getD (intV 0) = intV n := by cases f <;> exact ⟨_, rfl⟩
      have hg1 : (aGet (qOf e.c) m).getD (intV 0) = intV n := by rw [hgm]; exact hn
      have hg2 : (aGet (qOf e.c) m).isSome = f.isSome := by rw [hgm]; cases f <;> rfl
      obtain ⟨fb, hfb⟩ : ∃ fb, f.isSome = fb := ⟨_, rfl⟩
      rw [hfb] at hg2
      have hdue : dueE uses.els now early often e.c = (!decide (e.signed.set.data.len = 0) && decide (now < e.til) && !decide (now + early < e.til) && (fb && decide (often ≤ n))) := by
        unfold dueE
        rw [hden, hf, ← hfb]
        cases f with
        | none => rfl
        | some t =>
          have h5 : t = n := by
            have := hn; simp only [Option.map_some, Option.getD_some, Value.int.injEq] at this; exact this.2
          rw [h5]; rfl
      obtain ⟨mb, hmb⟩ : ∃ mb, decide (qOf e.c ∈ ys) = mb := ⟨_, rfl⟩
      repeat (any_goals (first | refine T.seq ?_ | refine T.region ?_ | refine TL.nil ?_ | refine N.next ?_ | refine N.inBlock ?_ | refine N.exit_same ?_ | refine N.exit_then ?_ | refine N.ret_then ?_ | refine N.ret_block ?_ | (apply N.exit_other; rfl) | refine T.ret ?_ | refine T.skip ?_ | refine T.exit ?_ | refine T.block ?_ | (apply T.cond_true; rfl) | (apply T.cond_false; rfl) | (apply T.test; rfl; (with_reducible (first | exact Is.ndec | exact Is.dec | exact Is.not | ((fail_if_success exact Is.litT); (fail_if_success exact Is.litF); exact Is.base))); intro _; rotate_left; intro _; rotate_right) | (apply TL.skip; rfl; rfl; rfl) | (apply TL.skip_none; rfl; rfl) | (apply TL.x; rfl; rfl; (apply X.storeTo 0 (enc e); rfl; rfl; rfl; rfl; rfl; rfl; rfl; rfl; exact hEn; rfl); intro _ _) | (apply TL.x; rfl; rfl; (apply X.storeTo 0 (enc e.signed.set); rfl; rfl; rfl; rfl; rfl; rfl; rfl; rfl; rfl; rfl); intro _ _) | (apply TL.val; rfl; rfl; (apply V.build; rfl; rfl; rfl; rfl; rfl; rfl)) | (apply TL.x; rfl; rfl; (apply X.storeTo 0 (enc (qOf e.c)); rfl; rfl; rfl; rfl; rfl; rfl; rfl; rfl; rfl; rfl); intro _ _) | (apply TL.call (d := 76) (f := 78) (first := #[]) (cap := #[]) (vs := [.agg (enc e).toArray, intV now]); rfl; rfl; rfl; rfl; exact Tryz.call78; exact fun _ hs => hU _ hs.sat) | (apply TL.call (d := 85) (f := 78) (first := #[]) (cap := #[]) (vs := [.agg (enc e).toArray, intV (now + early)]); rfl; rfl; rfl; rfl; exact Tryz.call78; exact fun _ hs => hU _ hs.sat) | (apply TL.val; rfl; rfl; (apply V.mlookupOkH (qOf e.c); rfl; rfl; rfl; exact key_q; rfl; rfl; exact hm1; exact hg1; exact hg2)) | (apply TL.callE (f := 79) [yv, .agg (enc (qOf e.c)).toArray] Tryz.call79; rfl; rfl; rfl; rfl; (exact fun _ hs => c_ContRowQ (qOf e.c) hmb hs (by (repeat (first | exact List.Sublist.refl _ | exact List.nil_sublist _ | apply List.Sublist.cons_cons | apply List.Sublist.cons))) rfl hyg hqe)) | (apply TL.x; rfl; rfl; (apply X.buildSlice1 (d := 107); rfl; rfl; rfl; rfl; rfl; rfl; rfl; rfl); intro b107 _) | (apply TL.x; rfl; rfl; (apply X.append1 4; rfl; rfl; rfl; rfl; rfl; rfl; rfl; rfl; rfl; exact List.Mem.head _; rfl; rfl; rfl; (refine Nat.le_trans (Nat.mul_le_mul_right _ (show _ ≤ 1000 by omega)) ?_; decide); omega); intro pa _) | (apply TL.val; rfl; rfl; (first | exact vpure | exact vread)) | (apply TL.x; rfl; rfl; (first | exact xgrow | exact xput); intro _ _) | (apply TL.guard; rfl; rfl; rfl; (with_reducible (first | exact Is.ndec | exact Is.dec | exact Is.not | ((fail_if_success exact Is.litT); (fail_if_success exact Is.litF); exact Is.base))); intro _; rotate_left; intro _; rotate_right)))
      all_goals (try (exfalso; omega))
      all_goals first
        | (have hb : (dueE uses.els now early often e.c && !decide (qOf e.c ∈ ys)) = true := by
             rw [hdue, hmb]
             simp only [Bool.and_eq_true, Bool.not_eq_true', decide_eq_true_eq, decide_eq_false_iff_not]
             refine ⟨⟨⟨⟨?_, ?_⟩, ?_⟩, ?_, ?_⟩, ?_⟩ <;> first | assumption | omega
           refine N.round (ys ++ [qOf e.c], .slice (some ⟨pa.1, 0, none⟩) (ys.length + 1) pa.2, i + 1) ⟨by show i + 1 ≤ _; omega, by simp; omega, ?_, ((hst true hb).trans (if_pos rfl)).symm⟩ (by show c.list.len - (i + 1) < c.list.len - i; omega) (by simp only [List.length_append, List.length_cons, List.length_nil]; (repeat (first | exact True.intro | refine ⟨rfl, ?_⟩ | refine Sub.int rfl (by omega) ?_))) rfl ?_
           · intro y hy
             rcases List.mem_append.1 hy with h | h
             · exact hyg y h
             · rw [List.mem_singleton.1 h]; exact hqe
           · simp only [List.length_append, List.length_cons, List.length_nil, Nat.zero_add, encs_snoc]
             (repeat (first | exact List.Sublist.refl _ | exact List.nil_sublist _ | apply List.Sublist.cons_cons | apply List.Sublist.cons)))
        | (have hb : (dueE uses.els now early often e.c && !decide (qOf e.c ∈ ys)) = false := by
             rw [hdue, hmb, Bool.eq_false_iff]
             intro h
             simp only [Bool.and_eq_true, Bool.not_eq_true', decide_eq_true_eq, decide_eq_false_iff_not] at h
             obtain ⟨⟨⟨⟨k1, k2⟩, k3⟩, k4, k5⟩, k6⟩ := h
             first
               | omega
               | (subst k4; contradiction)
               | (subst k6; contradiction)
               | simp_all
           refine N.round (ys, yv, i + 1) ⟨by show i + 1 ≤ _; omega, by show ys.length ≤ i + 1; omega, hyg, ((hst false hb).trans (if_neg (by decide))).symm⟩ (by show c.list.len - (i + 1) < c.list.len - i; omega) (by (repeat (first | exact True.intro | refine ⟨rfl, ?_⟩ | refine Sub.int rfl (by omega) ?_))) rfl (by (repeat (first | exact List.Sublist.refl _ | exact List.nil_sublist _ | apply List.Sublist.cons_cons | apply List.Sublist.cons))))
    · have hie : i = c.list.len := by omega
      subst hie
      rw [List.take_of_length_le (by show (c.list.els.map Entry.c).length ≤ _; rw [List.length_map]; omega)] at hys
      repeat (any_goals (first | refine T.seq ?_ | refine T.region ?_ | refine TL.nil ?_ | refine N.next ?_ | refine N.inBlock ?_ | refine N.exit_same ?_ | refine N.exit_then ?_ | refine N.ret_then ?_ | refine N.ret_block ?_ | (apply N.exit_other; rfl) | refine T.ret ?_ | refine T.skip ?_ | refine T.exit ?_ | refine T.block ?_ | (apply T.cond_true; rfl) | (apply T.cond_false; rfl) | (apply T.test; rfl; (with_reducible (first | exact Is.ndec | exact Is.dec | exact Is.not | ((fail_if_success exact Is.litT); (fail_if_success exact Is.litF); exact Is.base))); intro _; rotate_left; intro _; rotate_right) | (apply TL.skip; rfl; rfl; rfl) | (apply TL.skip_none; rfl; rfl) | (apply TL.val; rfl; rfl; (first | exact vpure | exact vread)) | (apply TL.x; rfl; rfl; (first | exact xgrow | exact xput); intro _ _) | (apply TL.guard; rfl; rfl; rfl; (with_reducible (first | exact Is.ndec | exact Is.dec | exact Is.not | ((fail_if_success exact Is.litT); (fail_if_success exact Is.litF); exact Is.base))); intro _; rotate_left; intro _; rotate_right)))
      all_goals (try (exfalso; omega))
      refine N.ret2 rfl (by (exact rvx)) (by (exact rvx)) fun w hst => ?_
      exact qs_end hst (List.Sublist.refl _) rfl hyg (by rw [hys]; rfl)
  · have he : dueC c.c uses.els now early often = ([], 1) := by
      unfold dueC; rw [if_pos]
      rw [Bool.not_eq_true', Bool.eq_false_iff]
      simp only [ne_eq, Bool.and_eq_true, decide_eq_true_eq]
      intro h; exact hb ⟨h.1.1.2, h.1.2, h.2⟩
    rw [he]
    have hv2 : ∀ {w : World} {H : Hp}, Sat H w → Calls Tryz.prog 77 #[intV now] w (Ret w (.bool (isT now))) := fun hs => c_ptime now _ _ hs
    repeat (any_goals (first | refine T.seq ?_ | refine T.region ?_ | refine TL.nil ?_ | refine N.next ?_ | refine N.inBlock ?_ | refine N.exit_same ?_ | refine N.exit_then ?_ | refine N.ret_then ?_ | refine N.ret_block ?_ | (apply N.exit_other; rfl) | refine T.ret ?_ | refine T.skip ?_ | refine T.exit ?_ | refine T.block ?_ | (apply T.cond_true; rfl) | (apply T.cond_false; rfl) | (apply T.test; rfl; (with_reducible (first | exact Is.ndec | exact Is.dec | exact Is.not | ((fail_if_success exact Is.litT); (fail_if_success exact Is.litF); exact Is.base))); intro _; rotate_left; intro _; rotate_right) | (apply TL.skip; rfl; rfl; rfl) | (apply TL.skip_none; rfl; rfl) | (apply TL.x; rfl; rfl; (apply X.callFE (f := 76) [uses.v] Tryz.call76; rfl; rfl; rfl; exact (fun _ hs => c_countsT uses _ _ hs.sat hu h1)); intro p hp; have hg1 := Enc.mono hp.2 hg; have hR1 := hR.mono hp.2) | (apply TL.callE (f := 44) [.agg (enc c).toArray] Tryz.call44; rfl; rfl; rfl; rfl; (exact fun _ hs => c_validV c rfl hs.sat hR1 hg1)) | (apply TL.callE (f := 77) [intV now] Tryz.call77; rfl; rfl; rfl; rfl; (exact fun _ hs => hv2 hs.sat)) | (apply TL.val; rfl; rfl; (first | exact vpure | exact vread)) | (apply TL.x; rfl; rfl; (first | exact xgrow | exact xput); intro _ _) | (apply TL.guard; rfl; rfl; rfl; (with_reducible (first | exact Is.ndec | exact Is.dec | exact Is.not | ((fail_if_success exact Is.litT); (fail_if_success exact Is.litF); exact Is.base))); intro _; rotate_left; intro _; rotate_right)))
    all_goals first
      | exact N.ret2 rfl (by (exact rvx)) (by (exact rvx)) fun w hst => ⟨(_, Slc.nil _), ⟨rfl, Slc.nil_good⟩, rfl, hst.fresh⟩
      | (exfalso; refine hb ⟨by assumption, by assumption, ?_⟩; omega)
end Go.Proofs.YtogcofeencgipaaGreatDoor
