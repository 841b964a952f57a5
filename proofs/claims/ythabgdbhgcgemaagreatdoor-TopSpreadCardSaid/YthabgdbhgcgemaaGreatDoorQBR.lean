import Derived.Test.YthabgdbhgcgemaaGreatDoorQNA
import Derived.Test.YthabgdbhgcgemaaGreatDoorQZV
import Derived.Test.YthabgdbhgcgemaaGreatDoorQZH
import Derived.Test.YthabgdbhgcgemaaGreatDoorQWM
import Derived.Test.YthabgdbhgcgemaaGreatDoorQWA
import Derived.Test.YthabgdbhgcgemaaGreatDoorQDataH
import Derived.Test.YthabgdbhgcgemaaGreatDoorQEngC
import Derived.Test.YthabgdbhgcgemaaGreatDoorQZD
import Derived.Test.YthabgdbhgcgemaaGreatDoorQTMap
import Derived.Test.YthabgdbhgcgemaaGreatDoorQWB
import Derived.Test.YthabgdbhgcgemaaGreatDoorQSpec
import Derived.Test.YthabgdbhgcgemaaGreatDoorQBC
import Derived.Test.YthabgdbhgcgemaaGreatDoorQBU
import Derived.Test.YthabgdbhgcgemaaGreatDoorQZM
namespace Go.Proofs.YthabgdbhgcgemaaGreatDoor
set_option linter.unusedVariables false
set_option linter.unusedSimpArgs false
open Go Go.RowKit
open Enc (enc)
set_option maxRecDepth 20000
structure WorldV where
  hosts : Slc HostV
  anchor : RSet
  hints : Slc Int
instance : Enc WorldV where
  size := 7
  enc h := [.slice h.hosts.A h.hosts.len h.hosts.cap, .slice none 0 0, strV h.anchor.name, intV h.anchor.typ, intV h.anchor.life, .slice h.anchor.data.A h.anchor.data.len h.anchor.data.cap, .slice h.hints.A h.hints.len h.hints.cap]
  good H h := h.hosts.Good H ∧ Enc.good H h.anchor ∧ h.hints.Good H
  len _ := rfl
  mono hle h := ⟨h.1.mono hle, Enc.mono hle h.2.1, h.2.2.mono hle⟩
  one _ := rfl
  pos := by decide
end Go.Proofs.YthabgdbhgcgemaaGreatDoor
namespace Go.Proofs.YthabgdbhgcgemaaGreatDoor
set_option linter.unusedVariables false
set_option linter.unusedSimpArgs false
open Go Go.RowKit
open Enc (enc)
set_option maxRecDepth 20000
end Go.Proofs.YthabgdbhgcgemaaGreatDoor
namespace Go.Proofs.YthabgdbhgcgemaaGreatDoor
set_option linter.unusedVariables false
set_option linter.unusedSimpArgs false
open Go Go.RowKit
open Enc (enc)
set_option maxRecDepth 20000
structure Cache where
  list : Slc Entry
instance : Enc Cache where
  size := 1
  enc c := [.slice c.list.A c.list.len c.list.cap]
  good H c := c.list.Good H
  len _ := rfl
  mono hle h := h.mono hle
  one _ := rfl
  pos := by decide
end Go.Proofs.YthabgdbhgcgemaaGreatDoor
namespace Go.Proofs.YthabgdbhgcgemaaGreatDoor
set_option linter.unusedVariables false
set_option linter.unusedSimpArgs false
open Go Go.RowKit
open Enc (enc)
set_option maxRecDepth 20000
end Go.Proofs.YthabgdbhgcgemaaGreatDoor
namespace Go.Proofs.YthabgdbhgcgemaaGreatDoor
set_option linter.unusedVariables false
set_option linter.unusedSimpArgs false
open Go Go.RowKit
open Enc (enc)
set_option maxRecDepth 20000
end Go.Proofs.YthabgdbhgcgemaaGreatDoor
namespace Go.Proofs.YthabgdbhgcgemaaGreatDoor
set_option linter.unusedVariables false
set_option linter.unusedSimpArgs false
open Go Go.RowKit
open Enc (enc)
set_option maxRecDepth 20000
end Go.Proofs.YthabgdbhgcgemaaGreatDoor
namespace Go.Proofs.YthabgdbhgcgemaaGreatDoor
set_option linter.unusedVariables false
set_option linter.unusedSimpArgs false
open Go Go.RowKit
open Enc (enc)
set_option maxRecDepth 20000
set_option maxHeartbeats 2000000 in
theorem c_Few06 (z : ZoneV) {H : Hp} {w : World} (hs : Sat H w) (hz : Enc.good H z) : Calls Tryz.prog 16 #[.agg (enc z).toArray] w (Tells w (z.sets.len ≤ 100)) := by
  have hg := hz.2
  have hlen := hg.len
  have hlim := hg.lim
  refine T.enter (vs := [.agg (enc z).toArray]) (H := H) Tryz.func16 rfl rfl rfl hs ?_
  repeat (any_goals (first | refine T.seq ?_ | refine T.region ?_ | refine TL.nil ?_ | refine N.next ?_ | refine T.block ?_ | (apply TL.x; rfl; rfl; (apply X.box (d := 1); rfl; rfl; rfl); intro b1 _) | (apply TL.val; rfl; rfl; (first | exact vpure | exact vread))))
  refine T.loop (G := Nat) (fun i => [(1, .pointer (some ⟨b1, 0, none⟩)), (3, intV i)]) (fun _ => H) (fun _ => [.blk b1 32 (enc z)]) (fun i => i ≤ z.sets.len) (fun i => z.sets.len - i) 0 (Nat.zero_le _) (by (repeat (first | exact True.intro | refine ⟨rfl, ?_⟩ | refine Sub.int rfl (by omega) ?_))) rfl (by (repeat (first | exact List.Sublist.refl _ | exact List.nil_sublist _ | apply List.Sublist.cons_cons | apply List.Sublist.cons))) ?_
  intro i hi
  by_cases hlt : i < z.sets.len ∧ i ≤ 100
  · obtain ⟨hl1, hl2⟩ := hlt
    have hil : i < z.sets.els.length := by omega
    obtain ⟨x, hx⟩ : ∃ x, z.sets.els[i]'hil = x := ⟨_, rfl⟩
    have hxg := hg.els _ (List.getElem_mem hil)
    rw [hx] at hxg
    have hm1 := hxg.1.2.2.2.lim
    have hm2 := hxg.2.lim
    have h3 := hg.cell (k := i) (j := 3) hl1 (v := .slice x.set.data.A x.set.data.len x.set.data.cap) (by show some (Value.slice (z.sets.els[i]'hil).set.data.A (z.sets.els[i]'hil).set.data.len (z.sets.els[i]'hil).set.data.cap) = _; rw [hx])
    have h4 := hg.cell (k := i) (j := 4) hl1 (v := .slice x.sigs.A x.sigs.len x.sigs.cap) (by show some (Value.slice (z.sets.els[i]'hil).sigs.A (z.sets.els[i]'hil).sigs.len (z.sets.els[i]'hil).sigs.cap) = _; rw [hx])
    repeat (any_goals (first | refine T.seq ?_ | refine T.region ?_ | refine TL.nil ?_ | refine N.next ?_ | refine N.inBlock ?_ | refine N.exit_same ?_ | refine N.exit_then ?_ | refine N.ret_then ?_ | refine N.ret_block ?_ | refine T.ret ?_ | refine T.skip ?_ | refine T.exit ?_ | refine T.block ?_ | (apply T.cond_true; rfl) | (apply T.cond_false; rfl) | (apply T.test; rfl; (exact isx); intro _; rotate_left; intro _; rotate_right) | (apply TL.skip; rfl; rfl; rfl) | (apply TL.val; rfl; rfl; (apply V.elem (j := i); (iterate 6 rfl); omega; exact hg.at_ (by omega))) | (apply TL.val; rfl; rfl; (apply V.load_H; rfl; rfl; rfl; first | exact h3 | exact h4)) | (apply TL.val; rfl; rfl; (first | exact vpure | exact vread)) | (apply TL.guard; rfl; rfl; rfl; (exact isx); intro _; rotate_left; intro _; rotate_right)))
    all_goals (try (exfalso; omega))
    all_goals first
      | exact N.tellF rfl (by (exact rvx))
      | exact N.round (i + 1) (by omega) (by show z.sets.len - (i + 1) < z.sets.len - i; omega) (by (repeat (first | exact True.intro | refine ⟨rfl, ?_⟩ | refine Sub.int rfl (by omega) ?_))) rfl (by (repeat (first | exact List.Sublist.refl _ | exact List.nil_sublist _ | apply List.Sublist.cons_cons | apply List.Sublist.cons)))
      | trace_state
  · repeat (any_goals (first | refine T.seq ?_ | refine T.region ?_ | refine TL.nil ?_ | refine N.next ?_ | refine N.inBlock ?_ | refine N.exit_same ?_ | refine N.exit_then ?_ | refine N.ret_then ?_ | refine N.ret_block ?_ | refine T.ret ?_ | refine T.skip ?_ | refine T.exit ?_ | refine T.block ?_ | (apply T.cond_true; rfl) | (apply T.cond_false; rfl) | (apply T.test; rfl; (exact isx); intro _; rotate_left; intro _; rotate_right) | (apply TL.skip; rfl; rfl; rfl) | (apply TL.val; rfl; rfl; (first | exact vpure | exact vread)) | (apply TL.guard; rfl; rfl; rfl; (exact isx); intro _; rotate_left; intro _; rotate_right)))
    all_goals (try (exfalso; omega))
    all_goals exact N.tell rfl (by (exact rvx)) fun hb => by have := of_decide_eq_true hb; omega
end Go.Proofs.YthabgdbhgcgemaaGreatDoor
namespace Go.Proofs.YthabgdbhgcgemaaGreatDoor
set_option linter.unusedVariables false
set_option linter.unusedSimpArgs false
open Go Go.RowKit
open Enc (enc)
set_option maxRecDepth 20000
def serUp (l : List VersionV) (k : Nat) : List Int := (l.take k).map fun v => serialC v.zone.c
theorem serUp_next {l : List VersionV} {k : Nat} (hk : k < l.length) : serUp l (k + 1) = serUp l k ++ [serialC l[k].zone.c] := by
  unfold serUp
  rw [List.take_succ_eq_append_getElem hk, List.map_append]; rfl
theorem versOK_of {l : List VersionV} {fin : Int} (hr : RightOK l fin) (h8 : l.length ≤ 8) (hn : (serUp l l.length).Nodup) (hf : ∀ j (hj : j < l.length), j < l.length → l[j].zone.sets.len ≤ 100) : VersOK l fin where
  n1 := hr.n1
  n8 := h8
  fin1 := hr.fin1
  fin2 := hr.fin2
  at0 := fun v hv => by obtain ⟨j, hj, rfl⟩ := List.mem_iff_getElem.1 hv; exact hr.all.at0 j hj hj
  zone := fun v hv => by obtain ⟨j, hj, rfl⟩ := List.mem_iff_getElem.1 hv; exact hr.all.zone j hj hj
  few := fun v hv => by obtain ⟨j, hj, rfl⟩ := List.mem_iff_getElem.1 hv; exact hf j hj hj
  apex := fun v hv y hy => by
    obtain ⟨j, hj, rfl⟩ := List.mem_iff_getElem.1 hv
    obtain ⟨i, hi, rfl⟩ := List.mem_iff_getElem.1 hy
    exact (hr.all.apex j hj hj).trans (hr.all.apex i hi hi).symm
  step := fun i hi => hr.all.step i hi hi
  apart := by have := hn; unfold serUp at this; rwa [List.take_length] at this
section
variable {H : Hp} {w : World}
set_option maxHeartbeats 8000000 in
theorem c_r7Right (l : Slc VersionV) (polls : Slc PollV) (fin : Int) (hs : Sat H w) (hg : l.Good H) (hgp : polls.Good H) : Calls Tryz.prog 5 #[l.v, polls.v, intV fin] w (Tells w (VersOK l.els fin ∧ polls.len ≤ 20)) := by
  have hlen := hg.len
  have hlim := hg.lim
  have hlimp := hgp.lim
  refine T.enter (vs := [l.v, polls.v, intV fin]) (H := H) Tryz.func5 rfl rfl rfl hs ?_
  by_cases hf : 1 ≤ fin ∧ fin ≤ 10000000
  case neg =>
    repeat (any_goals (first | refine T.seq ?_ | refine T.region ?_ | refine TL.nil ?_ | refine N.next ?_ | refine N.ret_then ?_ | refine T.ret ?_ | (apply T.cond_true; rfl) | (apply TL.skip; rfl; rfl; rfl) | (apply TL.callE (f := 13) [intV fin] Tryz.call13; (iterate 4 rfl); (exact fun _ hs => (decide_eq_false hf) ▸ c_End15 fin hs.sat)) | (apply TL.val; rfl; rfl; (first | exact vpure | exact vread)) | (apply TL.guard; rfl; rfl; rfl; (exact isx); intro _; rotate_left; intro _; rotate_right)))
    all_goals (try contradiction)
    all_goals exact N.tellF rfl (by (exact rvx))
  repeat (any_goals (first | refine T.seq ?_ | refine T.region ?_ | refine TL.nil ?_ | refine N.next ?_ | refine N.ret_then ?_ | refine T.ret ?_ | refine T.skip ?_ | refine T.block ?_ | (apply T.cond_true; rfl) | (apply T.test; rfl; (exact isx); intro _; rotate_left; intro _; rotate_right) | (apply TL.skip; rfl; rfl; rfl) | (apply TL.callE (f := 13) [intV fin] Tryz.call13; (iterate 4 rfl); (exact fun _ hs => (decide_eq_true hf) ▸ c_End15 fin hs.sat)) | (apply TL.x; rfl; rfl; (apply X.callG (f := 14) [l.v, intV fin] Tryz.call14; rfl; rfl; rfl; exact (fun _ hs => c_Right15 l fin hs.sat hg)); intro v1 hv1) | (apply TL.x; rfl; rfl; (apply X.makeMap (fun a : Int => intV a); rfl); intro bm _) | (apply TL.val; rfl; rfl; (first | exact vpure | exact vread)) | (apply TL.guard; rfl; rfl; rfl; (exact isx); intro _; rotate_left; intro _; rotate_right)))
  all_goals (try contradiction)
  all_goals (try (first | exact N.tellF rfl (by (exact rvx)) | skip))
  have hr := hv1 (by assumption)
  refine T.loop (G := Nat) (fun k => [(7, .map (some bm)), (31, l.v), (32, intV l.len), (33, intV k)]) (fun _ => H) (fun k => [.any bm (mObj (fun a : Int => intV a) ((serUp l.els k).map fun x => (x, Value.bool true)))]) (fun k => k ≤ l.len ∧ (serUp l.els k).Nodup ∧ ∀ j (hj : j < l.els.length), j < k → l.els[j].zone.sets.len ≤ 100) (fun k => l.len - k) 0 ⟨Nat.zero_le _, by simp [serUp], fun j _ h => absurd h (Nat.not_lt_zero _)⟩ (by (repeat (first | exact True.intro | refine ⟨rfl, ?_⟩ | refine Sub.int rfl (by omega) ?_))) rfl (by (repeat (first | exact List.Sublist.refl _ | exact List.nil_sublist _ | apply List.Sublist.cons_cons | apply List.Sublist.cons))) ?_
  rintro k ⟨hk, hnd, hfew⟩
  by_cases hlt : k < l.len
  case neg =>
    have e : k = l.els.length := by omega
    subst e
    repeat (any_goals (first | refine T.seq ?_ | refine T.region ?_ | refine TL.nil ?_ | refine N.next ?_ | refine N.exit_same ?_ | refine N.exit_then ?_ | refine T.ret ?_ | refine T.skip ?_ | refine T.exit ?_ | refine T.block ?_ | (apply T.test; rfl; (exact isx); intro _; rotate_left; intro _; rotate_right) | (apply TL.val; rfl; rfl; (first | exact vpure | exact vread)) | (apply TL.x; rfl; rfl; (first | exact xgrow | exact xput); intro _ _)))
    all_goals (try (exfalso; omega))
    exact N.tellT rfl (by (exact rvx)) ⟨versOK_of hr (by omega) hnd hfew, by omega⟩
  have hkl : k < l.els.length := by omega
  have hrow := hg.row (k := k) hlt
  have hxg := hg.els _ (List.getElem_mem hkl)
  have hxz := hr.all.zone k hkl hkl
  have hup := serUp_next hkl
  obtain ⟨az, has⟩ : ∃ az, serUp l.els k = az := ⟨_, rfl⟩
  rw [has] at hup hnd ⊢
  obtain ⟨x, hx⟩ : ∃ x, l.els[k]'hkl = x := ⟨_, rfl⟩
  rw [hx] at hxg hxz hup
  try rw [hx] at hrow
  obtain ⟨n, hn⟩ : ∃ n, serialC x.zone.c = n := ⟨_, rfl⟩
  rw [hn] at hup
  by_cases hin : n ∈ az
  case pos =>
    have hget : (aGet n (az.map fun x => (x, Value.bool true))).getD (.bool false) = .bool true := (aGet_set n az).trans (congrArg Value.bool (decide_eq_true hin))
    repeat (any_goals (first | refine T.seq ?_ | refine T.region ?_ | refine TL.nil ?_ | refine N.next ?_ | refine N.exit_same ?_ | refine N.exit_then ?_ | refine N.ret_then ?_ | refine N.ret_block ?_ | refine T.ret ?_ | refine T.skip ?_ | refine T.exit ?_ | refine T.block ?_ | (apply T.cond_true; rfl) | (apply T.test; rfl; (exact isx); intro _; rotate_left; intro _; rotate_right) | (apply TL.skip; rfl; rfl; rfl) | (apply TL.val; rfl; rfl; (apply V.elem (j := k); (iterate 6 rfl); omega; exact hg.at_ (by omega))) | (apply TL.val; rfl; rfl; (apply V.load_H_row; rfl; rfl; rfl; exact hrow; rfl)) | (apply TL.x; rfl; rfl; (apply X.alloc (d := 9); rfl; rfl; rfl); intro b9 _) | (apply TL.x; rfl; rfl; (apply X.storeTo 0 (enc x); (iterate 10 rfl)); intro _ _) | (apply TL.callE (f := 15) [.agg (enc x.zone).toArray] Tryz.call15; (iterate 4 rfl); (exact fun _ hs => c_SerialOf x.zone hxz hn hs.sat hxg.2)) | (apply TL.val; rfl; rfl; (apply V.mlookup (mk := fun a : Int => intV a) n; rfl; rfl; rfl; exact keyI Tryz.underlying3; rfl; rfl; (exact lmem); exact hget)) | (apply TL.val; rfl; rfl; (first | exact vpure | exact vread))))
    all_goals (try contradiction)
    all_goals (try (exfalso; omega))
    all_goals exact N.tellF rfl (by (exact rvx))
  have hget : (aGet n (az.map fun x => (x, Value.bool true))).getD (.bool false) = .bool false := (aGet_set n az).trans (congrArg Value.bool (decide_eq_false hin))
  repeat (any_goals (first | refine T.seq ?_ | refine T.region ?_ | refine TL.nil ?_ | refine N.next ?_ | refine N.inBlock ?_ | refine N.exit_same ?_ | refine N.exit_then ?_ | refine N.ret_then ?_ | refine N.ret_block ?_ | refine T.ret ?_ | refine T.skip ?_ | refine T.exit ?_ | refine T.block ?_ | (apply T.test; rfl; (exact isx); intro _; rotate_left; intro _; rotate_right) | (apply TL.val; rfl; rfl; (apply V.elem (j := k); (iterate 6 rfl); omega; exact hg.at_ (by omega))) | (apply TL.val; rfl; rfl; (apply V.load_H_row; rfl; rfl; rfl; exact hrow; rfl)) | (apply TL.x; rfl; rfl; (apply X.alloc (d := 9); rfl; rfl; rfl); intro b9 _) | (apply TL.x; rfl; rfl; (apply X.storeTo 0 (enc x); (iterate 10 rfl)); intro _ _) | (apply TL.callE (f := 15) [.agg (enc x.zone).toArray] Tryz.call15; (iterate 4 rfl); (exact fun _ hs => c_SerialOf x.zone hxz hn hs.sat hxg.2)) | (apply TL.val; rfl; rfl; (apply V.mlookup (mk := fun a : Int => intV a) n; rfl; rfl; rfl; exact keyI Tryz.underlying3; rfl; rfl; (exact lmem); exact hget)) | (apply TL.x; rfl; rfl; (apply X.callG (f := 16) [.agg (enc x.zone).toArray] Tryz.call16; rfl; rfl; rfl; exact (fun _ hs => c_Few06 x.zone hs.sat hxg.2)); intro v2 hv2) | (apply TL.x; rfl; rfl; (apply X.mput (mk := fun a : Int => intV a) 1 n; rfl; rfl; exact keyI Tryz.underlying3; (iterate 4 rfl); exact mput_toZ (aPut_set hin) rfl); intro _ _) | (apply TL.val; rfl; rfl; (first | exact vpure | exact vread))))
  all_goals (try contradiction)
  all_goals (try (exfalso; omega))
  all_goals first
    | exact N.tellF rfl (by (exact rvx))
    | (refine N.round (k + 1) ⟨by show k + 1 ≤ _; omega, ?_, fun j hj hjk => ?_⟩ (by show l.len - (k + 1) < l.len - k; omega) (by (repeat (first | exact True.intro | refine ⟨rfl, ?_⟩ | refine Sub.int rfl (by omega) ?_))) rfl ?_
       · rw [hup]
         refine List.nodup_append.2 ⟨hnd, List.pairwise_singleton _ _, fun a ha b hb => ?_⟩
         rw [List.mem_singleton.1 hb]
         exact fun e => hin (e ▸ ha)
       · by_cases e : j = k
         · subst e; rw [hx]; exact hv2 (by assumption)
         · exact hfew j hj (by omega)
       · simp only [hup]
         exact List.sublist_cons_self _ _)
    | trace_state
end
end Go.Proofs.YthabgdbhgcgemaaGreatDoor
