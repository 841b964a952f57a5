/- Walks: what the reference takes of an answer (R30: hosts, referral, Taken, Filter). -/
import Derived.Test.YtogcofeencgipaaGreatDoorKNT
import Derived.Test.YtogcofeencgipaaGreatDoorKRF
namespace Go.Proofs.YtogcofeencgipaaGreatDoor
set_option linter.unusedVariables false
set_option linter.unusedSimpArgs false
open Go Go.RowKit
open Enc (enc)
set_option maxRecDepth 20000
/-- The data of the first server set of a name. -/
def hostsS (a : Answer) (name : Bytes) : Slc Datum := match a.sets.els.find? (isServer name ∘ Signed.c) with
  | some x => x.set.data
  | none => Slc.nil _
theorem hostsS_good {a : Answer} {name : Bytes} {H : Hp} (ha : Enc.good H a) : (hostsS a name).Good H := by
  unfold hostsS
  split
  · rename_i x hx
    exact (ha.2.1.els _ (List.mem_of_find?_eq_some hx)).1.2.2.2
  · exact Slc.nil_good
theorem hostsS_texts {a : Answer} : (hostsS a a.cut).els.map Datum.text = hostsR a.c := by
  have h : a.c.sets.find? (isServer a.c.cut) = (a.sets.els.find? (isServer a.cut ∘ Signed.c)).map Signed.c := by
    show (a.sets.els.map Signed.c).find? (isServer a.cut) = _
    rw [List.find?_map]
  unfold hostsS hostsR
  rw [h]
  cases a.sets.els.find? (isServer a.cut ∘ Signed.c) <;> rfl
set_option maxHeartbeats 4000000 in
theorem c_hosts30 (a : Answer) (name : Bytes) (H : Hp) (w : World) (hs : Sat H w) (ha : Enc.good H a) : Calls Tryz.prog 223 #[.agg (enc a).toArray, strV name] w (Ret w (hostsS a name).v) := by
  refine T.enter (vs := [.agg (enc a).toArray, strV name]) (H := H) Tryz.func223 rfl rfl rfl hs ?_
  have hgs := ha.2.1
  have hlen := hgs.len
  have hlim := hgs.lim
  repeat (any_goals (first | refine T.seq ?_ | refine T.region ?_ | refine TL.nil ?_ | refine N.next ?_ | refine N.inBlock ?_ | refine N.exit_same ?_ | refine N.exit_then ?_ | refine N.ret_then ?_ | refine N.ret_block ?_ | (apply N.exit_other; rfl) | refine T.ret ?_ | refine T.skip ?_ | refine T.exit ?_ | refine T.block ?_ | (apply T.cond_true; rfl) | (apply T.cond_false; rfl) | (apply T.test; rfl; (exact visX); intro _; rotate_left; intro _; rotate_right) | (apply TL.skip; rfl; rfl; rfl) | (apply TL.skip_none; rfl; rfl) | (apply TL.x; rfl; rfl; (apply X.box (d := 2); rfl; rfl; rfl); intro b2 _) | (apply TL.val; rfl; rfl; (first | exact vpure | exact vread)) | (apply TL.x; rfl; rfl; (first | exact xgrow | exact xput); intro _ _) | (apply TL.guard; rfl; rfl; rfl; (exact visX); intro _; rotate_left; intro _; rotate_right)))
  refine T.loop (G := Nat) (fun k => [(1, strV name), (2, .pointer (some ⟨b2, 0, none⟩)), (5, intV k)]) (fun _ => H) (fun _ => [.blk b2 26 (enc a)]) (fun k => k ≤ a.sets.len ∧ ∀ j (hj : j < a.sets.els.length), j < k → (isServer name ∘ Signed.c) a.sets.els[j] = false) (fun k => a.sets.len - k) 0 ⟨Nat.zero_le _, fun j _ h => by omega⟩ (by exact vsub0) rfl (by exact vsubX) ?_
  rintro k ⟨hk, hrel⟩
  by_cases hlt : k < a.sets.len
  · have hk2 : k < a.sets.els.length := by omega
    have hx := hgs.els _ (List.getElem_mem hk2)
    have hat := fun h => find_at (p := isServer name ∘ Signed.c) hk2 h hrel
    have hsv : (isServer name ∘ Signed.c) (a.sets.els[k]'hk2) = (decide ((a.sets.els[k]'hk2).set.name = name) && decide ((a.sets.els[k]'hk2).set.typ = 2)) := rfl
    repeat (any_goals (first | refine T.seq ?_ | refine T.region ?_ | refine TL.nil ?_ | refine N.next ?_ | refine N.inBlock ?_ | refine N.exit_same ?_ | refine N.exit_then ?_ | refine N.ret_then ?_ | refine N.ret_block ?_ | (apply N.exit_other; rfl) | refine T.ret ?_ | refine T.skip ?_ | refine T.exit ?_ | refine T.block ?_ | (apply T.cond_true; rfl) | (apply T.cond_false; rfl) | (apply T.test; rfl; (exact visX); intro _; rotate_left; intro _; rotate_right) | (apply TL.skip; rfl; rfl; rfl) | (apply TL.skip_none; rfl; rfl) | (apply TL.val; rfl; rfl; (apply V.load_H; rfl; rfl; rfl; exact hgs.cell hlt rfl)) | (apply TL.val; rfl; rfl; (first | exact vpure | exact vread)) | (apply TL.x; rfl; rfl; (first | exact xgrow | exact xput); intro _ _) | (apply TL.guard; rfl; rfl; rfl; (exact visX); intro _; rotate_left; intro _; rotate_right)))
    all_goals (try (exfalso; omega))
    all_goals first
      | (have hnt : (isServer name ∘ Signed.c) (a.sets.els[k]'hk2) = false := by
           rw [hsv]
           first
             | rw [decide_eq_false (show ¬ (a.sets.els[k]'hk2).set.name = name by assumption), Bool.false_and]
             | rw [decide_eq_false (show ¬ (a.sets.els[k]'hk2).set.typ = 2 by assumption), Bool.and_false]
         refine N.round (k + 1) ⟨by omega, fun j hj hjk => ?_⟩ (by show a.sets.len - (k + 1) < a.sets.len - k; omega) (by exact vsub0) rfl (by exact vsubX)
         by_cases e : j = k
         · subst e; exact hnt
         · exact hrel j hj (by omega))
      | (have hst : (isServer name ∘ Signed.c) (a.sets.els[k]'hk2) = true := by
           rw [hsv, decide_eq_true (show (a.sets.els[k]'hk2).set.name = name by assumption), decide_eq_true (show (a.sets.els[k]'hk2).set.typ = 2 by assumption)]; rfl
         have hh : hostsS a name = (a.sets.els[k]'hk2).set.data := by unfold hostsS; rw [hat hst]
         rw [hh]
         exact N.ret_val rfl (by (exact rvx)) rfl)
  · repeat (any_goals (first | refine T.seq ?_ | refine T.region ?_ | refine TL.nil ?_ | refine N.next ?_ | refine N.inBlock ?_ | refine N.exit_same ?_ | refine N.exit_then ?_ | refine N.ret_then ?_ | refine N.ret_block ?_ | (apply N.exit_other; rfl) | refine T.ret ?_ | refine T.skip ?_ | refine T.exit ?_ | refine T.block ?_ | (apply T.cond_true; rfl) | (apply T.cond_false; rfl) | (apply T.test; rfl; (exact visX); intro _; rotate_left; intro _; rotate_right) | (apply TL.skip; rfl; rfl; rfl) | (apply TL.skip_none; rfl; rfl) | (apply TL.val; rfl; rfl; (first | exact vpure | exact vread)) | (apply TL.x; rfl; rfl; (first | exact xgrow | exact xput); intro _ _) | (apply TL.guard; rfl; rfl; rfl; (exact visX); intro _; rotate_left; intro _; rotate_right)))
    all_goals (try (exfalso; omega))
    have hh : hostsS a name = Slc.nil _ := by
      have h2 : a.sets.els.find? (isServer name ∘ Signed.c) = none := find_no fun x hx => by
        obtain ⟨j, hj, rfl⟩ := List.getElem_of_mem hx
        exact hrel j hj (by omega)
      unfold hostsS; rw [h2]
    rw [hh]
    exact N.ret_val rfl (by (exact rvx)) rfl
theorem mem_take_up {l : List Datum} {k : Nat} {x : Datum} {n : Bytes} (h : l[k]? = some x) : decide (n ∈ ((l.take (k + 1)).map Datum.text)) = (decide (n ∈ ((l.take k).map Datum.text)) || decide (x.text = n)) := by
  rw [List.take_add_one, h, List.map_append, Bool.eq_iff_iff]
  simp only [Bool.or_eq_true, decide_eq_true_eq, List.mem_append, Option.toList_some, List.map_cons, List.map_nil, List.mem_singleton]
  exact or_congr_right eq_comm
set_option maxHeartbeats 8000000 in
theorem c_referral30 (zone : Bytes) (q : Question) (a : Answer) (s : RSet) (H : Hp) (w : World) (hs : Sat H w) (hq : Enc.good H q) (ha : Enc.good H a) (hsg : Enc.good H s) (hz : nameOK zone = true) (hqn : nameOK q.name = true) (hcn : nameOK a.cut = true) (hsn : nameOK s.name = true) : Calls Tryz.prog 197 #[strV zone, .agg (enc q).toArray, .agg (enc a).toArray, .agg (enc s).toArray] w (Ret w (.bool (referR zone q a.c s.c))) := by
  refine T.enter (vs := [strV zone, .agg (enc q).toArray, .agg (enc a).toArray, .agg (enc s).toArray]) (H := H) Tryz.func197 rfl rfl rfl hs ?_
  have z6 := nameOK_le hz
  have q6 := nameOK_le hqn
  have c6 := nameOK_le hcn
  have s6 := nameOK_le hsn
  obtain ⟨v1, h1⟩ : ∃ v, inN a.cut zone = v := ⟨_, rfl⟩
  obtain ⟨v2, h2⟩ : ∃ v, inN q.name a.cut = v := ⟨_, rfl⟩
  obtain ⟨v3, h3⟩ : ∃ v, inN s.name a.cut = v := ⟨_, rfl⟩
  have hb : belowV a.cut zone = (decide (a.cut ≠ zone) && v1) := by rw [below_in hcn hz, h1]
  have hu : (underC q.name a.cut).1 = v2 := by rw [underC_in hqn hcn, h2]
  have hus : (underC s.name a.cut).1 = v3 := by rw [underC_in hsn hcn, h3]
  have hgh := hostsS_good (name := a.cut) ha
  have htx := hostsS_texts (a := a)
  have hr : referR zone q a.c s.c = if (decide (a.cut ≠ zone) && v1) = true ∧ v2 = true then (if s.typ = 2 ∨ s.typ = 6 ∨ s.typ = 8 then decide (s.name = a.cut) else decide (s.typ = 1) && (v3 && decide (s.name ∈ hostsR a.c))) else false := by
    unfold referR
    rw [show a.c.cut = a.cut from rfl, hb, hu]
    split
    · show refR a.c s.c = _
      unfold refR
      rw [show a.c.cut = a.cut from rfl, show s.c.name = s.name from rfl, hus]; rfl
    · rfl
  rw [hr, ← htx]
  have hc30 : ∀ {w : World}, Sat H w → Calls Tryz.prog 223 #[.agg (enc a).toArray, strV a.cut] w (Ret w (hostsS a a.cut).v) := fun hs => c_hosts30 a a.cut H _ hs ha
  generalize hostsS a a.cut = hl at hgh hc30 ⊢
  have hll := hgh.len
  have hlm := hgh.lim
  by_cases hB : (decide (a.cut ≠ zone) && v1) = true ∧ v2 = true
  · rw [if_pos hB]
    simp only [Bool.and_eq_true, decide_eq_true_eq] at hB
    obtain ⟨⟨hB1, hB2⟩, hB3⟩ := hB
    subst hB2 hB3
    repeat (any_goals (first | refine T.seq ?_ | refine T.region ?_ | (apply T.regionD wide; rfl) | refine TL.nil ?_ | refine N.next ?_ | refine N.inBlock ?_ | refine N.exit_same ?_ | refine N.exit_then ?_ | refine N.ret_then ?_ | refine N.ret_block ?_ | (apply N.exit_other; rfl) | refine T.ret ?_ | refine T.skip ?_ | refine T.exit ?_ | refine T.block ?_ | (apply T.cond_true; rfl) | (apply T.cond_false; rfl) | (apply T.test; rfl; (exact visX); intro _; rotate_left; intro _; rotate_right) | (apply TL.skip; rfl; rfl; rfl) | (apply TL.skip_none; rfl; rfl) | (apply GT.skip; rfl; rfl; rfl; decide +kernel) | (apply TL.x; rfl; rfl; (apply X.box (d := 5); rfl; rfl; rfl); intro b5 _) | (apply TL.x; rfl; rfl; (apply X.box (d := 6); rfl; rfl; rfl); intro b6 _) | (apply TL.x; rfl; rfl; (apply X.box (d := 7); rfl; rfl; rfl); intro b7 _) | (apply TL.callE (f := 46) [strV a.cut, strV zone] Tryz.call46; rfl; rfl; rfl; rfl; (exact fun _ hs => h1 ▸ c_In a.cut zone _ _ hs.sat (by omega) (by omega))) | (apply GT.callE (f := 46) [strV a.cut, strV zone] Tryz.call46; (iterate 6 rfl); (exact fun _ hs => h1 ▸ c_In a.cut zone _ _ hs.sat (by omega) (by omega)); decide +kernel) | (apply TL.callE (f := 46) [strV q.name, strV a.cut] Tryz.call46; rfl; rfl; rfl; rfl; (exact fun _ hs => h2 ▸ c_In q.name a.cut _ _ hs.sat (by omega) (by omega))) | (apply GT.callE (f := 46) [strV q.name, strV a.cut] Tryz.call46; (iterate 6 rfl); (exact fun _ hs => h2 ▸ c_In q.name a.cut _ _ hs.sat (by omega) (by omega)); decide +kernel) | (apply TL.callE (f := 223) [.agg (enc a).toArray, strV a.cut] Tryz.call223; rfl; rfl; rfl; rfl; (exact fun _ hs => hc30 hs.sat)) | (apply GT.callE (f := 223) [.agg (enc a).toArray, strV a.cut] Tryz.call223; (iterate 6 rfl); (exact fun _ hs => hc30 hs.sat); decide +kernel) | (apply TL.val; rfl; rfl; (first | exact vpure | exact vread)) | (apply GT.pure; rfl; rfl; rfl; rfl; exact vpure; decide +kernel) | (apply GT.read; rfl; rfl; rfl; rfl; (first | exact vpure | exact vread); decide +kernel) | (apply GT.done; decide +kernel; apply N.ofQ) | (apply GT.adv; rfl) | (apply TL.x; rfl; rfl; (first | exact xgrow | exact xput); intro _ _) | (apply GS.grow; rfl; rfl; exact xgrow; intro _ _) | (apply GS.eff; rfl; decide +kernel; rfl; exact xput; intro _ _) | (apply TL.guard; rfl; rfl; rfl; (exact visX); intro _; rotate_left; intro _; rotate_right) | (apply GT.guard; rfl; rfl; rfl; rfl; (exact visX); intro _; rotate_left; intro _; rotate_right) | (apply GT.fork1; decide +kernel)))
    all_goals (try contradiction)
    all_goals first
      | (refine N.ret_bool rfl (by (exact rvx)) ?_
         rw [if_pos (by omega), decide_eq_true (by assumption)]; done)
      | (refine T.loop (G := Nat) (fun k => [(6, .pointer (some ⟨b6, 0, none⟩)), (7, .pointer (some ⟨b7, 0, none⟩)), (9, hl.v), (10, intV k)]) (fun _ => H) (fun _ => [.blk b7 62 (enc s), .blk b6 26 (enc a)]) (fun k => k ≤ hl.len ∧ (decide (s.typ = 1) && (v3 && decide (s.name ∈ (hl.els.take k).map Datum.text))) = false) (fun k => hl.len - k) 0 ⟨Nat.zero_le _, by simp⟩ (by exact vsub0) rfl (by exact vsubX) ?_
         rintro k ⟨hk, hrel⟩
         by_cases hlt : k < hl.len
         · have hk2 : k < hl.els.length := by omega
           have hup := mem_take_up (n := s.name) (List.getElem?_eq_getElem hk2)
           repeat (any_goals (first | refine T.seq ?_ | refine T.region ?_ | (apply T.regionD wide; rfl) | refine TL.nil ?_ | refine N.next ?_ | refine N.inBlock ?_ | refine N.exit_same ?_ | refine N.exit_then ?_ | refine N.ret_then ?_ | refine N.ret_block ?_ | (apply N.exit_other; rfl) | refine T.ret ?_ | refine T.skip ?_ | refine T.exit ?_ | refine T.block ?_ | (apply T.cond_true; rfl) | (apply T.cond_false; rfl) | (apply T.test; rfl; (exact visX); intro _; rotate_left; intro _; rotate_right) | (apply TL.skip; rfl; rfl; rfl) | (apply TL.skip_none; rfl; rfl) | (apply GT.skip; rfl; rfl; rfl; decide +kernel) | (apply TL.val; rfl; rfl; (apply V.load_H; rfl; rfl; rfl; exact hgh.cell hlt rfl)) | (apply GT.read; rfl; rfl; rfl; rfl; (apply V.load_H; rfl; rfl; rfl; exact hgh.cell hlt rfl); decide +kernel) | (apply TL.callE (f := 46) [strV s.name, strV a.cut] Tryz.call46; rfl; rfl; rfl; rfl; (exact fun _ hs => h3 ▸ c_In s.name a.cut _ _ hs.sat (by omega) (by omega))) | (apply GT.callE (f := 46) [strV s.name, strV a.cut] Tryz.call46; (iterate 6 rfl); (exact fun _ hs => h3 ▸ c_In s.name a.cut _ _ hs.sat (by omega) (by omega)); decide +kernel) | (apply TL.val; rfl; rfl; (first | exact vpure | exact vread)) | (apply GT.pure; rfl; rfl; rfl; rfl; exact vpure; decide +kernel) | (apply GT.read; rfl; rfl; rfl; rfl; (first | exact vpure | exact vread); decide +kernel) | (apply GT.done; decide +kernel; apply N.ofQ) | (apply GT.adv; rfl) | (apply TL.x; rfl; rfl; (first | exact xgrow | exact xput); intro _ _) | (apply GS.grow; rfl; rfl; exact xgrow; intro _ _) | (apply GS.eff; rfl; decide +kernel; rfl; exact xput; intro _ _) | (apply TL.guard; rfl; rfl; rfl; (exact visX); intro _; rotate_left; intro _; rotate_right) | (apply GT.guard; rfl; rfl; rfl; rfl; (exact visX); intro _; rotate_left; intro _; rotate_right) | (apply GT.fork1; decide +kernel)))
           all_goals (try (exfalso; omega))
           all_goals first
             | (refine N.ret_bool rfl (by (exact rvx)) ?_
                have hmem : s.name ∈ hl.els.map Datum.text := by
                  rw [← show (hl.els[k]'hk2).text = s.name by assumption]
                  exact List.mem_map_of_mem (List.getElem_mem hk2)
                rw [if_neg (by omega), decide_eq_true (show s.typ = 1 by assumption), show v3 = true by assumption, decide_eq_true hmem]; rfl)
             | (refine N.round (k + 1) ⟨by omega, ?_⟩ (by show hl.len - (k + 1) < hl.len - k; omega) (by exact vsub0) rfl (by exact vsubX)
                rw [hup]
                first
                  | (rw [decide_eq_false (show ¬ s.typ = 1 by assumption)]; rfl)
                  | (rw [decide_eq_false (show ¬ (hl.els[k]'hk2).text = s.name by assumption), Bool.or_false]; exact hrel)
                  | (rw [show v3 = false by assumption, Bool.false_and, Bool.and_false]))
         · repeat (any_goals (first | refine T.seq ?_ | refine T.region ?_ | (apply T.regionD wide; rfl) | refine TL.nil ?_ | refine N.next ?_ | refine N.inBlock ?_ | refine N.exit_same ?_ | refine N.exit_then ?_ | refine N.ret_then ?_ | refine N.ret_block ?_ | (apply N.exit_other; rfl) | refine T.ret ?_ | refine T.skip ?_ | refine T.exit ?_ | refine T.block ?_ | (apply T.cond_true; rfl) | (apply T.cond_false; rfl) | (apply T.test; rfl; (exact visX); intro _; rotate_left; intro _; rotate_right) | (apply TL.skip; rfl; rfl; rfl) | (apply TL.skip_none; rfl; rfl) | (apply GT.skip; rfl; rfl; rfl; decide +kernel) | (apply TL.val; rfl; rfl; (first | exact vpure | exact vread)) | (apply GT.pure; rfl; rfl; rfl; rfl; exact vpure; decide +kernel) | (apply GT.read; rfl; rfl; rfl; rfl; (first | exact vpure | exact vread); decide +kernel) | (apply GT.done; decide +kernel; apply N.ofQ) | (apply GT.adv; rfl) | (apply TL.x; rfl; rfl; (first | exact xgrow | exact xput); intro _ _) | (apply GS.grow; rfl; rfl; exact xgrow; intro _ _) | (apply GS.eff; rfl; decide +kernel; rfl; exact xput; intro _ _) | (apply TL.guard; rfl; rfl; rfl; (exact visX); intro _; rotate_left; intro _; rotate_right) | (apply GT.guard; rfl; rfl; rfl; rfl; (exact visX); intro _; rotate_left; intro _; rotate_right) | (apply GT.fork1; decide +kernel)))
           all_goals (try (exfalso; omega))
           rw [List.take_of_length_le (by omega)] at hrel
           refine N.ret_bool rfl (by (exact rvx)) ?_
           split
           · rename_i ht
             symm
             refine decide_eq_false fun hn => ?_
             first
               | (exact absurd hn (by assumption))
               | omega
           · exact hrel.symm)
      | trace_state
  · rw [if_neg hB]
    simp only [Bool.and_eq_true, decide_eq_true_eq] at hB
    repeat (any_goals (first | refine T.seq ?_ | refine T.region ?_ | (apply T.regionD wide; rfl) | refine TL.nil ?_ | refine N.next ?_ | refine N.inBlock ?_ | refine N.exit_same ?_ | refine N.exit_then ?_ | refine N.ret_then ?_ | refine N.ret_block ?_ | (apply N.exit_other; rfl) | refine T.ret ?_ | refine T.skip ?_ | refine T.exit ?_ | refine T.block ?_ | (apply T.cond_true; rfl) | (apply T.cond_false; rfl) | (apply T.test; rfl; (exact visX); intro _; rotate_left; intro _; rotate_right) | (apply TL.skip; rfl; rfl; rfl) | (apply TL.skip_none; rfl; rfl) | (apply GT.skip; rfl; rfl; rfl; decide +kernel) | (apply TL.x; rfl; rfl; (apply X.box (d := 5); rfl; rfl; rfl); intro b5 _) | (apply TL.x; rfl; rfl; (apply X.box (d := 6); rfl; rfl; rfl); intro b6 _) | (apply TL.x; rfl; rfl; (apply X.box (d := 7); rfl; rfl; rfl); intro b7 _) | (apply TL.callE (f := 46) [strV a.cut, strV zone] Tryz.call46; rfl; rfl; rfl; rfl; (exact fun _ hs => h1 ▸ c_In a.cut zone _ _ hs.sat (by omega) (by omega))) | (apply GT.callE (f := 46) [strV a.cut, strV zone] Tryz.call46; (iterate 6 rfl); (exact fun _ hs => h1 ▸ c_In a.cut zone _ _ hs.sat (by omega) (by omega)); decide +kernel) | (apply TL.callE (f := 46) [strV q.name, strV a.cut] Tryz.call46; rfl; rfl; rfl; rfl; (exact fun _ hs => h2 ▸ c_In q.name a.cut _ _ hs.sat (by omega) (by omega))) | (apply GT.callE (f := 46) [strV q.name, strV a.cut] Tryz.call46; (iterate 6 rfl); (exact fun _ hs => h2 ▸ c_In q.name a.cut _ _ hs.sat (by omega) (by omega)); decide +kernel) | (apply TL.callE (f := 223) [.agg (enc a).toArray, strV a.cut] Tryz.call223; rfl; rfl; rfl; rfl; (exact fun _ hs => hc30 hs.sat)) | (apply GT.callE (f := 223) [.agg (enc a).toArray, strV a.cut] Tryz.call223; (iterate 6 rfl); (exact fun _ hs => hc30 hs.sat); decide +kernel) | (apply TL.val; rfl; rfl; (first | exact vpure | exact vread)) | (apply GT.pure; rfl; rfl; rfl; rfl; exact vpure; decide +kernel) | (apply GT.read; rfl; rfl; rfl; rfl; (first | exact vpure | exact vread); decide +kernel) | (apply GT.done; decide +kernel; apply N.ofQ) | (apply GT.adv; rfl) | (apply TL.x; rfl; rfl; (first | exact xgrow | exact xput); intro _ _) | (apply GS.grow; rfl; rfl; exact xgrow; intro _ _) | (apply GS.eff; rfl; decide +kernel; rfl; exact xput; intro _ _) | (apply TL.guard; rfl; rfl; rfl; (exact visX); intro _; rotate_left; intro _; rotate_right) | (apply GT.guard; rfl; rfl; rfl; rfl; (exact visX); intro _; rotate_left; intro _; rotate_right) | (apply GT.fork1; decide +kernel)))
    all_goals first
      | exact N.ret_bool rfl (by (exact rvx)) rfl
      | (exfalso; exact hB ⟨⟨by assumption, by assumption⟩, by assumption⟩)
def takenT (zone : Bytes) (q : Question) (a : AnswerC) (x : SetC) : Bool := (underC q.name zone).1 && ((underC x.name zone).1 && ruleF zone q a x)
set_option maxHeartbeats 8000000 in
theorem c_Taken30 (zone : Bytes) (q : Question) (a : Answer) (s : RSet) (H : Hp) (w : World) (hs : Sat H w) (hq : Enc.good H q) (ha : Enc.good H a) (hsg : Enc.good H s) (hz : nameOK zone = true) (hqn : nameOK q.name = true) (hcn : a.kind = 4 → nameOK a.cut = true) (hsn : nameOK s.name = true) (hk : 1 ≤ a.kind ∧ a.kind ≤ 7) : Calls Tryz.prog 156 #[strV zone, .agg (enc q).toArray, .agg (enc a).toArray, .agg (enc s).toArray] w (Ret w (.bool (takenT zone q a.c s.c))) := by
  refine T.enter (vs := [strV zone, .agg (enc q).toArray, .agg (enc a).toArray, .agg (enc s).toArray]) (H := H) Tryz.func156 rfl rfl rfl hs ?_
  have z6 := nameOK_le hz
  have q6 := nameOK_le hqn
  have s6 := nameOK_le hsn
  obtain ⟨v1, h1⟩ : ∃ v, inN q.name zone = v := ⟨_, rfl⟩
  obtain ⟨v2, h2⟩ : ∃ v, inN s.name zone = v := ⟨_, rfl⟩
  obtain ⟨v3, h3⟩ : ∃ v, inN q.name s.name = v := ⟨_, rfl⟩
  obtain ⟨v4, h4⟩ : ∃ v, wildAboveC s.name q.name = v := ⟨_, rfl⟩
  obtain ⟨v5, h5⟩ : ∃ v, referR zone q a.c s.c = v := ⟨_, rfl⟩
  have hr : takenT zone q a.c s.c = (v1 && (v2 && if a.kind = 4 then v5 else if a.kind = 1 then decide (s.name = q.name) && decide (s.typ = q.typ) else if a.kind = 2 then decide (s.typ = 8) || (decide (s.typ = q.typ) && v4) else if a.kind = 3 then decide (s.typ = 8) || (decide (s.typ = 3) && (decide (s.name = q.name) || v4)) else if a.kind = 5 ∨ a.kind = 6 then decide (s.typ = 8) || (decide (s.typ = 4) && v3) else false)) := by
    have hrule : ruleF zone q a.c s.c = if a.kind = 4 then v5 else if a.kind = 1 then decide (s.name = q.name) && decide (s.typ = q.typ) else if a.kind = 2 then decide (s.typ = 8) || (decide (s.typ = q.typ) && v4) else if a.kind = 3 then decide (s.typ = 8) || (decide (s.typ = 3) && (decide (s.name = q.name) || v4)) else if a.kind = 5 ∨ a.kind = 6 then decide (s.typ = 8) || (decide (s.typ = 4) && v3) else false := by
      show (if a.kind = 4 then referR zone q a.c else if a.kind = 1 then dataR q else if a.kind = 2 then wildR q else if a.kind = 3 then aliasR q else if a.kind = 5 ∨ a.kind = 6 then deniedR q else noneR) s.c = _
      by_cases e4 : a.kind = 4
      · rw [if_pos e4, if_pos e4]; exact h5
      rw [if_neg e4, if_neg e4]
      by_cases e1 : a.kind = 1
      · rw [if_pos e1, if_pos e1]; rfl
      rw [if_neg e1, if_neg e1]
      by_cases e2 : a.kind = 2
      · rw [if_pos e2, if_pos e2, ← h4]; rfl
      rw [if_neg e2, if_neg e2]
      by_cases e3 : a.kind = 3
      · rw [if_pos e3, if_pos e3, ← h4]; rfl
      rw [if_neg e3, if_neg e3]
      by_cases e5 : a.kind = 5 ∨ a.kind = 6
      · rw [if_pos e5, if_pos e5, ← h3, ← underC_in hqn hsn]; rfl
      rw [if_neg e5, if_neg e5]; rfl
    unfold takenT
    rw [underC_in hqn hz, show s.c.name = s.name from rfl, underC_in hsn hz, h1, h2, hrule]
  rw [hr]
  have hcR : a.kind = 4 → ∀ {w : World}, Sat H w → Calls Tryz.prog 197 #[strV zone, .agg (enc q).toArray, .agg (enc a).toArray, .agg (enc s).toArray] w (Ret w (.bool v5)) := fun h _ hs => h5 ▸ c_referral30 zone q a s H _ hs hq ha hsg hz hqn (hcn h) hsn
  repeat (any_goals (first | refine T.seq ?_ | refine T.region ?_ | refine TL.nil ?_ | refine N.next ?_ | refine N.inBlock ?_ | refine N.exit_same ?_ | refine N.exit_then ?_ | refine N.ret_then ?_ | refine N.ret_block ?_ | (apply N.exit_other; rfl) | refine T.ret ?_ | refine T.skip ?_ | refine T.exit ?_ | refine T.block ?_ | (apply T.cond_true; rfl) | (apply T.cond_false; rfl) | (apply T.test; rfl; (exact visX); intro _; rotate_left; intro _; rotate_right) | (apply TL.skip; rfl; rfl; rfl) | (apply TL.skip_none; rfl; rfl) | (apply TL.x; rfl; rfl; (apply X.box (d := 5); rfl; rfl; rfl); intro b5 _) | (apply TL.x; rfl; rfl; (apply X.box (d := 6); rfl; rfl; rfl); intro b6 _) | (apply TL.x; rfl; rfl; (apply X.box (d := 7); rfl; rfl; rfl); intro b7 _) | (apply TL.callE (f := 46) [strV q.name, strV zone] Tryz.call46; rfl; rfl; rfl; rfl; (exact fun _ hs => h1 ▸ c_In q.name zone _ _ hs.sat (by omega) (by omega))) | (apply TL.callE (f := 46) [strV s.name, strV zone] Tryz.call46; rfl; rfl; rfl; rfl; (exact fun _ hs => h2 ▸ c_In s.name zone _ _ hs.sat (by omega) (by omega))) | (apply TL.callE (f := 46) [strV q.name, strV s.name] Tryz.call46; rfl; rfl; rfl; rfl; (exact fun _ hs => h3 ▸ c_In q.name s.name _ _ hs.sat (by omega) (by omega))) | (apply TL.callE (f := 198) [strV s.name, strV q.name] Tryz.call198; rfl; rfl; rfl; rfl; (exact fun _ hs => h4 ▸ c_starred s.name q.name hsn hqn hs.sat)) | (apply TL.callE (f := 197) [strV zone, .agg (enc q).toArray, .agg (enc a).toArray, .agg (enc s).toArray] Tryz.call197; rfl; rfl; rfl; rfl; (exact fun _ hs => hcR (by assumption) hs.sat)) | (apply TL.val; rfl; rfl; (first | exact vpure | exact vread)) | (apply TL.x; rfl; rfl; (first | exact xgrow | exact xput); intro _ _) | (apply TL.guard; rfl; rfl; rfl; (exact visX); intro _; rotate_left; intro _; rotate_right)))
  all_goals (refine N.ret_bool rfl (by (exact rvx)) ?_)
  all_goals first
    | (simp_all; done)
    | (have h56 : a.kind = 5 ∨ a.kind = 6 := by omega
       simp_all; done)
    | (rcases hk with ⟨hk1, hk2⟩
       have h56 : a.kind = 5 ∨ a.kind = 6 := by omega
       rcases h56 with h56 | h56 <;> simp_all; done)
    | (rcases hk with ⟨hk1, hk2⟩
       have h56 : a.kind = 2 ∨ a.kind = 3 ∨ a.kind = 5 ∨ a.kind = 6 := by omega
       rcases h56 with h56 | h56 | h56 | h56 <;> simp_all; done)
    | trace_state
theorem answer_cut {a : AnswerC} (h : answerOK a = true) : a.kind = 4 → nameOK a.cut = true := fun hk => by
  unfold answerOK at h
  simp only [Bool.and_eq_true] at h
  have h2 := h.2
  rw [if_pos hk] at h2
  exact h2
theorem setOK_name {s : SetC} (h : setOK s = true) : nameOK s.name = true := by
  unfold setOK at h
  simp only [Bool.and_eq_true] at h
  exact h.1.1.1.1.1.1.1
theorem zone_wild (z : Bytes) : wildN z = (decide (z = [42]) || decide (z.take 2 = [42, 46])) := by
  unfold wildN parts
  by_cases hr : z = [46]
  · subst hr; decide
  · rw [if_neg hr, Bool.eq_iff_iff]
    simp only [Bool.or_eq_true, decide_eq_true_eq]
    constructor
    · intro h
      have hj := join_split z
      cases hsp : splitDots z with
      | nil => exact absurd hsp (splitDots_ne z)
      | cons x r =>
        rw [hsp] at h hj
        have hx : x = [42] := by simpa using h
        subst hx
        by_cases hn : r = []
        · subst hn; exact .inl hj.symm
        · rw [joinD_cons hn] at hj
          exact .inr (by rw [← hj]; rfl)
    · rintro (rfl | h)
      · decide
      · have e : z = [42] ++ 46 :: z.drop 2 := by
          conv => lhs; rw [← List.take_append_drop 2 z, h]
          rfl
        rw [e, splitDots_mid]; rfl
theorem zoneV_wild {z : Bytes} (h : nameOK z = true) : zoneV z = !wildN z := by
  unfold zoneV
  rw [h, zone_wild, Bool.true_and, Bool.not_or]
theorem filterF_T {zone : Bytes} {q : Question} {a : AnswerC} (h : (zoneV zone && questionOK q && answerOK a) = true) : filterF zone q a = (a.sets.filter fun x => takenT zone q a x.set, 0) := by
  unfold filterF
  rw [h]
  cases hu : (underC q.name zone).1 with
  | false =>
    show ([], 0) = _
    congr 1
    symm
    rw [List.filter_eq_nil_iff]
    intro x _
    unfold takenT
    rw [hu]; simp
  | true =>
    show (a.sets.filter (takenF zone q a), (0 : Int)) = _
    congr 1
    apply List.filter_congr
    intro x _
    unfold takenT takenF
    rw [hu, Bool.true_and]
theorem zoneV_name {zone : Bytes} (h : zoneV zone = true) : nameOK zone = true := by
  unfold zoneV at h
  simp only [Bool.and_eq_true] at h
  exact h.1.1
set_option maxHeartbeats 8000000 in
theorem c_Filter30 (zone : Bytes) (q : Question) (a : Answer) (H : Hp) (w : World) (hs : Sat H w) (hR : Rules H) (hz : LenOk zone) (hq : Enc.good H q) (ha : Enc.good H a) (hok : (zoneV zone && questionOK q && answerOK a.c) = true) : Calls Tryz.prog 95 #[strV zone, .agg (enc q).toArray, .agg (enc a).toArray] w (Lists w H (filterF zone q a.c)) := by
  rw [filterF_T hok]
  have hv := hok
  simp only [Bool.and_eq_true] at hv
  obtain ⟨⟨hv1, hv2⟩, hv3⟩ := hv
  have hzn := zoneV_name hv1
  have z6 := nameOK_le hzn
  have hqn : nameOK q.name = true := by
    have h := hv2
    unfold questionOK at h
    rw [Bool.and_eq_true] at h
    exact h.1
  have hcn := answer_cut hv3
  obtain ⟨hk, hl40, hsh⟩ := answerOK_short hv3
  have hwz : wildN zone = false := by
    have h := zoneV_wild hzn
    rw [hv1] at h
    cases hw : wildN zone
    · rfl
    · rw [hw] at h; cases h
  refine T.enter (vs := [strV zone, .agg (enc q).toArray, .agg (enc a).toArray]) (H := H) Tryz.func95 rfl rfl rfl hs ?_
  have hgs := ha.2.1
  have hlen := hgs.len
  have hlim := hgs.lim
  repeat (any_goals (first | refine T.seq ?_ | refine T.region ?_ | (apply T.regionD wide; rfl) | refine TL.nil ?_ | refine N.next ?_ | refine N.inBlock ?_ | refine N.exit_same ?_ | refine N.exit_then ?_ | refine N.ret_then ?_ | refine N.ret_block ?_ | (apply N.exit_other; rfl) | refine T.ret ?_ | refine T.skip ?_ | refine T.exit ?_ | refine T.block ?_ | (apply T.cond_true; rfl) | (apply T.cond_false; rfl) | (apply T.test; rfl; (exact visX); intro _; rotate_left; intro _; rotate_right) | (apply TL.skip; rfl; rfl; rfl) | (apply TL.skip_none; rfl; rfl) | (apply GT.skip; rfl; rfl; rfl; decide +kernel) | (apply TL.x; rfl; rfl; (apply X.box (d := 4); rfl; rfl; rfl); intro b4 _) | (apply TL.x; rfl; rfl; (apply X.box (d := 5); rfl; rfl; rfl); intro b5 _) | (apply TL.callE (f := 92) [strV zone] Tryz.call92; rfl; rfl; rfl; rfl; (exact fun _ hs => hzn ▸ c_nameValid01 _ _ _ hs.sat hz)) | (apply GT.callE (f := 92) [strV zone] Tryz.call92; (iterate 6 rfl); (exact fun _ hs => hzn ▸ c_nameValid01 _ _ _ hs.sat hz); decide +kernel) | (apply TL.callE (f := 93) [strV zone] Tryz.call93; rfl; rfl; rfl; rfl; (exact fun _ hs => hwz ▸ c_Wild01 zone _ _ hs.sat (by omega))) | (apply GT.callE (f := 93) [strV zone] Tryz.call93; (iterate 6 rfl); (exact fun _ hs => hwz ▸ c_Wild01 zone _ _ hs.sat (by omega)); decide +kernel) | (apply TL.callE (f := 39) [.agg (enc q).toArray] Tryz.call39; rfl; rfl; rfl; rfl; (exact fun _ hs => hv2 ▸ c_Question06 q _ _ hs.sat hq)) | (apply GT.callE (f := 39) [.agg (enc q).toArray] Tryz.call39; (iterate 6 rfl); (exact fun _ hs => hv2 ▸ c_Question06 q _ _ hs.sat hq); decide +kernel) | (apply TL.callE (f := 70) [.agg (enc a).toArray] Tryz.call70; rfl; rfl; rfl; rfl; (exact fun _ hs => hv3 ▸ c_Answer26 a _ _ hs.sat ha)) | (apply GT.callE (f := 70) [.agg (enc a).toArray] Tryz.call70; (iterate 6 rfl); (exact fun _ hs => hv3 ▸ c_Answer26 a _ _ hs.sat ha); decide +kernel) | (apply TL.val; rfl; rfl; (first | exact vpure | exact vread)) | (apply GT.pure; rfl; rfl; rfl; rfl; exact vpure; decide +kernel) | (apply GT.read; rfl; rfl; rfl; rfl; (first | exact vpure | exact vread); decide +kernel) | (apply GT.done; decide +kernel; apply N.ofQ) | (apply GT.adv; rfl) | (apply TL.x; rfl; rfl; (first | exact xgrow | exact xput); intro _ _) | (apply GS.grow; rfl; rfl; exact xgrow; intro _ _) | (apply GS.eff; rfl; decide +kernel; rfl; exact xput; intro _ _) | (apply TL.guard; rfl; rfl; rfl; (exact visX); intro _; rotate_left; intro _; rotate_right) | (apply GT.guard; rfl; rfl; rfl; rfl; (exact visX); intro _; rotate_left; intro _; rotate_right) | (apply GT.fork1; decide +kernel)))
  all_goals (try contradiction)
  refine T.nilRow 65 5 ?_
  refine T.loop (G := List Signed × Value × Nat) (fun g => [(0, strV zone), (4, .pointer (some ⟨b4, 0, none⟩)), (5, .pointer (some ⟨b5, 0, none⟩)), (8, g.2.1), (9, intV g.2.2)]) (fun _ => H) (fun g => [.row g.2.1 65 5 g.1.length (encs g.1), .blk b5 26 (enc a), .blk b4 23 (enc q)]) (fun g => g.2.2 ≤ a.sets.len ∧ g.1.length ≤ g.2.2 ∧ (∀ y ∈ g.1, Enc.good H y) ∧ g.1.map Signed.c = (a.c.sets.take g.2.2).filter fun x => takenT zone q a.c x.set) (fun g => a.sets.len - g.2.2) ([], .slice none 0 0, 0) ⟨Nat.zero_le _, Nat.le_refl _, by simp, by simp⟩ (by exact vsub0) rfl (by exact vsubX) ?_
  rintro ⟨ys, yv, k⟩ ⟨hk1, hyl, hyg, hys⟩
  simp only at hk1 hyl hyg hys ⊢
  by_cases hlt : k < a.sets.len
  · have hk2 : k < a.sets.els.length := by omega
    have hx := hgs.els _ (List.getElem_mem hk2)
    have hck : a.c.sets[k]? = some (a.sets.els[k]'hk2).c := by
      show (a.sets.els.map Signed.c)[k]? = _
      rw [List.getElem?_map, List.getElem?_eq_getElem hk2]; rfl
    have hup := filter_up (p := fun x : SignedC => takenT zone q a.c x.set) hck
    have hsn : nameOK (a.sets.els[k]'hk2).set.name = true := setOK_name (hsh _ (List.getElem_mem hk2)).1
    obtain ⟨tv, htv⟩ : ∃ v, takenT zone q a.c (a.sets.els[k]'hk2).set.c = v := ⟨_, rfl⟩
    have htv' : takenT zone q a.c (a.sets.els[k]'hk2).c.set = tv := htv
    have hcT : ∀ {w : World}, Sat H w → Calls Tryz.prog 156 #[strV zone, .agg (enc q).toArray, .agg (enc a).toArray, .agg (enc (a.sets.els[k]'hk2).set).toArray] w (Ret w (.bool tv)) := fun hs => htv ▸ c_Taken30 zone q a (a.sets.els[k]'hk2).set H _ hs hq ha hx.1 hzn hqn hcn hsn hk
    repeat (any_goals (first | refine T.seq ?_ | refine T.region ?_ | (apply T.regionD wide; rfl) | refine TL.nil ?_ | refine N.next ?_ | refine N.inBlock ?_ | refine N.exit_same ?_ | refine N.exit_then ?_ | refine N.ret_then ?_ | refine N.ret_block ?_ | (apply N.exit_other; rfl) | refine T.ret ?_ | refine T.skip ?_ | refine T.exit ?_ | refine T.block ?_ | (apply T.cond_true; rfl) | (apply T.cond_false; rfl) | (apply T.test; rfl; (exact visX); intro _; rotate_left; intro _; rotate_right) | (apply TL.skip; rfl; rfl; rfl) | (apply TL.skip_none; rfl; rfl) | (apply GT.skip; rfl; rfl; rfl; decide +kernel) | (apply TL.callE (f := 156) [strV zone, .agg (enc q).toArray, .agg (enc a).toArray, .agg (enc (a.sets.els[k]'hk2).set).toArray] Tryz.call156; rfl; rfl; rfl; rfl; (exact fun _ hs => hcT hs.sat)) | (apply GT.callE (f := 156) [strV zone, .agg (enc q).toArray, .agg (enc a).toArray, .agg (enc (a.sets.els[k]'hk2).set).toArray] Tryz.call156; (iterate 6 rfl); (exact fun _ hs => hcT hs.sat); decide +kernel) | (apply GS.eff; rfl; decide +kernel; rfl; (apply X.append1 1; (iterate 9 rfl); exact List.Mem.head _; rfl; rfl; rfl; (refine Nat.le_trans (Nat.mul_le_mul_right _ (show _ ≤ 1000 by omega)) ?_; decide); omega); intro pa _) | (apply TL.x; rfl; rfl; (apply X.append1 1; (iterate 9 rfl); exact List.Mem.head _; rfl; rfl; rfl; (refine Nat.le_trans (Nat.mul_le_mul_right _ (show _ ≤ 1000 by omega)) ?_; decide); omega); intro pa _) | (apply TL.val; rfl; rfl; (first | exact vpure | exact vread)) | (apply GT.pure; rfl; rfl; rfl; rfl; exact vpure; decide +kernel) | (apply GT.read; rfl; rfl; rfl; rfl; (first | exact vpure | exact vread); decide +kernel) | (apply GT.done; decide +kernel; apply N.ofQ) | (apply GT.adv; rfl) | (apply TL.x; rfl; rfl; (first | exact xgrow | exact xput); intro _ _) | (apply GS.grow; rfl; rfl; exact xgrow; intro _ _) | (apply GS.eff; rfl; decide +kernel; rfl; exact xput; intro _ _) | (apply TL.guard; rfl; rfl; rfl; (exact visX); intro _; rotate_left; intro _; rotate_right) | (apply GT.guard; rfl; rfl; rfl; rfl; (exact visX); intro _; rotate_left; intro _; rotate_right) | (apply GT.fork1; decide +kernel)))
    all_goals (try (exfalso; omega))
    all_goals first
      | (have ht : tv = true := by assumption
         refine N.round (ys ++ [a.sets.els[k]'hk2], .slice (some ⟨pa.1, 0, none⟩) (ys.length + 1) pa.2, k + 1) ⟨by show k + 1 ≤ _; omega, by simp; omega, ?_, ?_⟩ (by show a.sets.len - (k + 1) < a.sets.len - k; omega) (by exact vsub0) rfl ?_
         · intro z hz
           rcases List.mem_append.1 hz with h | h
           · exact hyg z h
           · rw [List.mem_singleton.1 h]; exact hx
         · rw [hup, if_pos (htv'.trans ht), List.map_append, hys]; rfl
         · simp only [List.length_append, List.length_cons, List.length_nil, Nat.zero_add, encs_snoc]
           (repeat (first | exact List.Sublist.refl _ | exact List.nil_sublist _ | apply List.Sublist.cons_cons | apply List.Sublist.cons)))
      | (have ht : tv = false := by assumption
         refine N.round (ys, yv, k + 1) ⟨by show k + 1 ≤ _; omega, by show ys.length ≤ k + 1; omega, hyg, ?_⟩ (by show a.sets.len - (k + 1) < a.sets.len - k; omega) (by exact vsub0) rfl (by exact vsubX)
         rw [hup, if_neg (by rw [htv', ht]; decide), List.append_nil]
         exact hys)
  · have hke : k = a.sets.len := by omega
    subst hke
    rw [List.take_of_length_le (by show (a.sets.els.map Signed.c).length ≤ _; rw [List.length_map]; omega)] at hys
    apply T.frzRow 0 (els := ys); rfl; rfl; rfl; exact hyg
    intro H3 sl e1 e2 e3 hle3
    subst e1
    repeat (any_goals (first | refine T.seq ?_ | refine T.region ?_ | (apply T.regionD wide; rfl) | refine TL.nil ?_ | refine N.next ?_ | refine N.inBlock ?_ | refine N.exit_same ?_ | refine N.exit_then ?_ | refine N.ret_then ?_ | refine N.ret_block ?_ | (apply N.exit_other; rfl) | refine T.ret ?_ | refine T.skip ?_ | refine T.exit ?_ | refine T.block ?_ | (apply T.cond_true; rfl) | (apply T.cond_false; rfl) | (apply T.test; rfl; (exact visX); intro _; rotate_left; intro _; rotate_right) | (apply TL.skip; rfl; rfl; rfl) | (apply TL.skip_none; rfl; rfl) | (apply GT.skip; rfl; rfl; rfl; decide +kernel) | (apply TL.val; rfl; rfl; (first | exact vpure | exact vread)) | (apply GT.pure; rfl; rfl; rfl; rfl; exact vpure; decide +kernel) | (apply GT.read; rfl; rfl; rfl; rfl; (first | exact vpure | exact vread); decide +kernel) | (apply GT.done; decide +kernel; apply N.ofQ) | (apply GT.adv; rfl) | (apply TL.x; rfl; rfl; (first | exact xgrow | exact xput); intro _ _) | (apply GS.grow; rfl; rfl; exact xgrow; intro _ _) | (apply GS.eff; rfl; decide +kernel; rfl; exact xput; intro _ _) | (apply TL.guard; rfl; rfl; rfl; (exact visX); intro _; rotate_left; intro _; rotate_right) | (apply GT.guard; rfl; rfl; rfl; rfl; (exact visX); intro _; rotate_left; intro _; rotate_right) | (apply GT.fork1; decide +kernel)))
    all_goals (try (exfalso; omega))
    refine N.ret2 rfl (by (exact rvx)) (by (exact rvx)) fun w hst => ⟨(H3, sl), ⟨?_, e3⟩, rfl, hst.fresh⟩
    show sl.els.map Signed.c = _
    rw [e2, hys]
end Go.Proofs.YtogcofeencgipaaGreatDoor
