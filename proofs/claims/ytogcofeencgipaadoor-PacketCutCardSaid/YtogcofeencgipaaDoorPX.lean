/- The law PacketCut. -/
import Derived.Test.YtogcofeencgipaaDoorPW
import Derived.Test.YtogcofeencgipaaDoorPLaw
namespace Go.Proofs.YtogcofeencgipaaDoor
set_option linter.unusedVariables false
set_option linter.unusedSimpArgs false
open Go Go.RowKit
open Enc (enc)
set_option maxRecDepth 20000
set_option maxHeartbeats 2000000 in
theorem c_sealed (s : Slc UInt8) (H : Hp) (w : World) (hs : Sat H w) (hg : s.Good H) (hl : s.len ≤ 1000000) : Calls Tryd.prog 11 #[s.v] w (RetF w H (fun p : Hp × Slc UInt8 => p.2.els = sealB s.els ∧ p.2.Good p.1) (fun p => p.2.v) (fun p => p.1)) := by
  have hlen := hg.len
  have hdr := dig_range (d := firstDigest) (by decide) s.els
  refine T.enter (vs := [s.v]) (H := H) Tryd.func11 rfl rfl rfl hs ?_
  repeat (any_goals (first | refine T.seq ?_ | refine T.region ?_ | refine TL.nil ?_ | refine N.next ?_ | refine N.inBlock ?_ | refine N.exit_same ?_ | refine N.exit_then ?_ | refine N.ret_then ?_ | refine N.ret_block ?_ | (apply N.exit_other; rfl) | refine T.ret ?_ | refine T.skip ?_ | refine T.exit ?_ | refine T.block ?_ | (apply T.cond_true; rfl) | (apply T.cond_false; rfl) | (apply T.test; rfl; (with_reducible (first | exact Is.ndec | exact Is.dec | exact Is.not | ((fail_if_success exact Is.litT); (fail_if_success exact Is.litF); exact Is.base))); intro _; rotate_left; intro _; rotate_right) | (apply TL.skip; rfl; rfl; rfl) | (apply TL.skip_none; rfl; rfl) | (apply TL.x; rfl; rfl; (apply X.buildSlice0; rfl; rfl; rfl; rfl); intro _ _) | (apply TL.x; rfl; rfl; (apply X.appendSlc 0 s; rfl; rfl; rfl; rfl; rfl; rfl; rfl; rfl; rfl; rfl; exact hg; (show (0 + s.len) * 1 ≤ 140737488355328; omega); omega); intro v3 _) | (apply TL.callE (f := 18) [s.v] Tryd.call18; rfl; rfl; rfl; rfl; (exact fun _ hs => c_signDigestG s _ _ hs.sat hg)) | (apply TL.val; rfl; rfl; (first | exact vpure | exact vread)) | (apply TL.x; rfl; rfl; (first | exact xgrow | exact xput); intro _ _) | (apply TL.guard; rfl; rfl; rfl; (with_reducible (first | exact Is.ndec | exact Is.dec | exact Is.not | ((fail_if_success exact Is.litT); (fail_if_success exact Is.litF); exact Is.base))); intro _; rotate_left; intro _; rotate_right)))
  simp only [Nat.zero_add, List.nil_append]
  obtain ⟨D, hD⟩ : ∃ D, D = digest firstDigest s.els := ⟨_, rfl⟩
  have hsB : sealB s.els = s.els ++ num8 D := by rw [hD]; rfl
  rw [← hD] at hdr ⊢
  refine T.loop (G := Nat × Value) (fun g => [(3, g.2), (4, .int .u64 D), (5, intV (56 - 8 * (g.1 : Int)))]) (fun _ => H) (fun g => [bR g.2 (s.els ++ (num8 D).take g.1)]) (fun g => g.1 ≤ 8) (fun g => 8 - g.1) (0, v3) (Nat.zero_le _) (by (repeat (first | exact True.intro | refine ⟨rfl, ?_⟩ | refine Sub.int rfl (by omega) ?_))) rfl (by rw [List.take_zero, List.append_nil, ← hlen]; exact List.Sublist.refl _) ?_
  rintro ⟨k, v1⟩ hk
  simp only at hk ⊢
  by_cases hlt : k < 8
  · have hl8 : ((num8 D).take k).length ≤ 8 := by rw [List.length_take]; omega
    repeat (any_goals (first | refine T.seq ?_ | refine T.region ?_ | refine TL.nil ?_ | refine N.next ?_ | refine N.inBlock ?_ | refine N.exit_same ?_ | refine N.exit_then ?_ | refine N.ret_then ?_ | refine N.ret_block ?_ | (apply N.exit_other; rfl) | refine T.ret ?_ | refine T.skip ?_ | refine T.exit ?_ | refine T.block ?_ | (apply T.cond_true; rfl) | (apply T.cond_false; rfl) | (apply T.test; rfl; (with_reducible (first | exact Is.ndec | exact Is.dec | exact Is.not | ((fail_if_success exact Is.litT); (fail_if_success exact Is.litF); exact Is.base))); intro _; rotate_left; intro _; rotate_right) | (apply TL.skip; rfl; rfl; rfl) | (apply TL.skip_none; rfl; rfl) | (apply TL.val; rfl; rfl; (apply V.convW (r := .u8); rfl; rfl; rfl; rfl; exact num8_wrapU hdr _ k hlt rfl)) | (apply TL.val; rfl; rfl; (apply V.shrU; rfl; rfl; (constructor <;> omega))) | (apply TL.x; rfl; rfl; (apply X.appendBy 1; rfl; rfl; rfl; rfl; rfl; rfl; rfl; rfl; rfl; rfl; exact List.Mem.head _; (rw [List.length_append]; omega)); intro v2 _) | (apply TL.val; rfl; rfl; (first | exact vpure | exact vread)) | (apply TL.x; rfl; rfl; (first | exact xgrow | exact xput); intro _ _) | (apply TL.guard; rfl; rfl; rfl; (with_reducible (first | exact Is.ndec | exact Is.dec | exact Is.not | ((fail_if_success exact Is.litT); (fail_if_success exact Is.litF); exact Is.base))); intro _; rotate_left; intro _; rotate_right)))
    all_goals (try (exfalso; omega))
    rename_i v2 _
    refine N.round (k + 1, v2) (by show k + 1 ≤ 8; omega) (by show 8 - (k + 1) < 8 - k; omega) (by (repeat (first | exact True.intro | refine ⟨rfl, ?_⟩ | refine Sub.int rfl (by omega) ?_))) rfl ?_
    rw [num8_take D hlt, ← List.append_assoc]
    (first | exact List.Sublist.refl _ | exact List.nil_sublist _ | exact List.Sublist.cons _ (List.Sublist.refl _) | exact List.Sublist.cons _ (List.Sublist.cons _ (List.Sublist.refl _)))
  · have hk8 : k = 8 := by omega
    subst hk8
    repeat (any_goals (first | refine T.seq ?_ | refine T.region ?_ | refine TL.nil ?_ | refine N.next ?_ | refine N.inBlock ?_ | refine N.exit_same ?_ | refine N.exit_then ?_ | refine N.ret_then ?_ | refine N.ret_block ?_ | (apply N.exit_other; rfl) | refine T.ret ?_ | refine T.skip ?_ | refine T.exit ?_ | refine T.block ?_ | (apply T.cond_true; rfl) | (apply T.cond_false; rfl) | (apply T.test; rfl; (with_reducible (first | exact Is.ndec | exact Is.dec | exact Is.not | ((fail_if_success exact Is.litT); (fail_if_success exact Is.litF); exact Is.base))); intro _; rotate_left; intro _; rotate_right) | (apply TL.skip; rfl; rfl; rfl) | (apply TL.skip_none; rfl; rfl) | (apply TL.val; rfl; rfl; (first | exact vpure | exact vread)) | (apply TL.x; rfl; rfl; (first | exact xgrow | exact xput); intro _ _) | (apply TL.guard; rfl; rfl; rfl; (with_reducible (first | exact Is.ndec | exact Is.dec | exact Is.not | ((fail_if_success exact Is.litT); (fail_if_success exact Is.litF); exact Is.base))); intro _; rotate_left; intro _; rotate_right)))
    all_goals (try (exfalso; omega))
    apply N.ret1; rfl; (exact rvx)
    intro w1 hst
    rw [List.take_of_length_le (by rw [num8_len]; omega), ← hsB] at hst
    obtain ⟨H2, s2, f1, f2, f3, f4, f5⟩ := hst.freezeRow (α := UInt8) rfl rfl (fun _ _ => trivial)
    exact ⟨(H2, s2), ⟨f2, f3⟩, congrArg Ending.returned f1.symm, f5.fresh⟩
set_option maxHeartbeats 8000000 in
theorem c_PCut0 (m : Msg) (at_ : Nat) (r : Slc UInt8) (H : Hp) (w : World) (hs : Sat H w) (hR : Rules H) (hm : Enc.good H m) (hat : at_ ≤ 65535) (hr : r.Good H) : Calls Tryd.prog 4 #[.agg (enc m).toArray, .int .u16 at_, r.v] w (Ret w (.bool true)) := by
  have hsum := sums_ok hm
  have hrl := hr.len
  have hrm := hr.lim
  obtain ⟨⟨B, e⟩, hb⟩ : ∃ p, bytesC m.c = p := ⟨_, rfl⟩
  refine T.enter (vs := [.agg (enc m).toArray, .int .u16 at_, r.v]) (H := H) Tryd.func4 rfl rfl rfl hs ?_
  repeat (any_goals (first | (apply T.seqU 7; rfl) | refine T.region ?_ | refine TL.nil ?_ | refine N.next ?_ | refine N.inBlock ?_ | refine N.exit_same ?_ | refine N.exit_then ?_ | refine N.ret_then ?_ | refine N.ret_block ?_ | (apply N.exit_other; rfl) | refine T.ret ?_ | refine T.skip ?_ | refine T.exit ?_ | refine T.block ?_ | (apply T.cond_true; rfl) | (apply T.cond_false; rfl) | (apply T.test; rfl; (with_reducible (first | exact Is.ndec | exact Is.dec | exact Is.not | ((fail_if_success exact Is.litT); (fail_if_success exact Is.litF); exact Is.base))); intro _; rotate_left; intro _; rotate_right) | (apply TL.skip; rfl; rfl; rfl) | (apply TL.skip_none; rfl; rfl) | (apply TL.x; rfl; rfl; (apply X.box (d := 3); rfl; rfl; rfl); intro b3 _) | (apply TL.callE (f := 5) [] Tryd.call5; rfl; rfl; rfl; rfl; (exact fun _ hs => c_head26 _ _ hs.sat hR)) | (apply TL.callE (f := 6) [.agg (enc m).toArray] Tryd.call6; rfl; rfl; rfl; rfl; (exact fun _ hs => c_Few26 m _ _ hs.sat hm)) | (apply TL.x; rfl; rfl; (apply X.callFE (d := 27) (f := 7) [.agg (enc m).toArray] Tryd.call7; rfl; rfl; rfl; exact (fun _ hs => c_pBytesL (m := m) hb hs.sat hR hm)); intro p1 hp1; have hR := Rules.mono hp1.2 hR; have hr := hr.mono hp1.2; have hb1 := hp1.1.2; have hl1 := hp1.1.2.len; have hlm1 := hp1.1.2.lim; have hcp1 := hp1.1.2.cap) | (apply TL.val; rfl; rfl; (first | exact vpure | exact vread)) | (apply TL.x; rfl; rfl; (first | exact xgrow | exact xput); intro _ _) | (apply TL.guard; rfl; rfl; rfl; (with_reducible (first | exact Is.ndec | exact Is.dec | exact Is.not | ((fail_if_success exact Is.litT); (fail_if_success exact Is.litF); exact Is.base))); intro _; rotate_left; intro _; rotate_right)))
  all_goals (try exact N.ret_bool rfl (by (exact rvx)) rfl)
  have he1 := hp1.1.1
  rw [he1] at hl1
  have hr100 : r.len ≤ 100 := by omega
  by_cases he : e = 0
  · subst he
    obtain ⟨_, h4, hok, hBs⟩ := read_bytes hb hsum
    have h8 := seal_len (msgB m.c)
    have h9 := msgB_pos m.c
    rw [← hBs] at h8
    have hn : ((p1.2.len : Int) - 8).toNat ≤ p1.2.len := by omega
    have hfl : ((p1.2.len : Int) - 8).toNat = (msgB m.c).length := by omega
    have hfe : (p1.2.to ((p1.2.len : Int) - 8).toNat).els = msgB m.c := by
      show p1.2.els.take _ = _
      rw [he1, hfl, hBs]
      exact List.take_left' rfl
    obtain ⟨k, hkd⟩ : ∃ k, k = at_ % (msgB m.c).length := ⟨_, rfl⟩
    have hk : k < (msgB m.c).length := by rw [hkd]; exact Nat.mod_lt _ (by omega)
    have hgf := hb1.to hn
    have hfn : (p1.2.to ((p1.2.len : Int) - 8).toNat).len = (msgB m.c).length := by rw [← hgf.len, hfe]
    have hfv : (p1.2.to ((p1.2.len : Int) - 8).toNat).len = ((p1.2.len : Int) - 8).toNat := rfl
    have hkj : at_ % ((p1.2.len : Int) - 8).toNat = k := by rw [hkd, hfl]
    have hgi : (((at_ % ((p1.2.len : Int) - 8).toNat : Nat) : Int)).toNat ≤ (p1.2.to ((p1.2.len : Int) - 8).toNat).len := by rw [Int.toNat_natCast, hkj, hfn]; omega
    have hge : ((p1.2.to ((p1.2.len : Int) - 8).toNat).to ((at_ % ((p1.2.len : Int) - 8).toNat : Nat) : Int).toNat).els = (msgB m.c).take k := by
      show (p1.2.to ((p1.2.len : Int) - 8).toNat).els.take _ = _
      rw [Int.toNat_natCast, hkj, hfe]
    have hgl : ((p1.2.to ((p1.2.len : Int) - 8).toNat).to ((at_ % ((p1.2.len : Int) - 8).toNat : Nat) : Int).toNat).len = k := by show (((at_ % ((p1.2.len : Int) - 8).toNat : Nat) : Int)).toNat = k; rw [Int.toNat_natCast, hkj]
    have hgc := hgf.cap
    have h5 : readC (sealB ((p1.2.to ((p1.2.len : Int) - 8).toNat).to ((at_ % ((p1.2.len : Int) - 8).toNat : Nat) : Int).toNat).els) = ((readC (sealB ((p1.2.to ((p1.2.len : Int) - 8).toNat).to ((at_ % ((p1.2.len : Int) - 8).toNat : Nat) : Int).toNat).els)).1, 10) := by
      have h := read_cut hok hsum (by rw [← hBs]; exact h4) hk
      rw [← hge] at h
      rw [← h]
    obtain ⟨e7, he7⟩ : ∃ e, e = (readC (sealB ((p1.2.to ((p1.2.len : Int) - 8).toNat).els ++ r.els))).2 := ⟨_, rfl⟩
    have h7 : readC (sealB ((p1.2.to ((p1.2.len : Int) - 8).toNat).els ++ r.els)) = ((readC (sealB ((p1.2.to ((p1.2.len : Int) - 8).toNat).els ++ r.els))).1, e7) := by rw [he7]
    have h70 : e7 = 0 ↔ r.els = [] := by rw [he7, hfe]; exact read_more hok hsum (by rw [← hBs]; exact h4) r.els
    have hjm : ((p1.2.len : Int) - 8).toNat ≤ 4000 := by omega
    repeat (any_goals (first | refine T.seq ?_ | refine T.region ?_ | refine TL.nil ?_ | refine N.next ?_ | refine N.inBlock ?_ | refine N.exit_same ?_ | refine N.exit_then ?_ | refine N.ret_then ?_ | refine N.ret_block ?_ | (apply N.exit_other; rfl) | refine T.ret ?_ | refine T.skip ?_ | refine T.exit ?_ | refine T.block ?_ | (apply T.cond_true; rfl) | (apply T.cond_false; rfl) | (apply T.test; rfl; (with_reducible (first | exact Is.ndec | exact Is.dec | exact Is.not | ((fail_if_success exact Is.litT); (fail_if_success exact Is.litF); exact Is.base))); intro _; rotate_left; intro _; rotate_right) | (apply TL.skip; rfl; rfl; rfl) | (apply TL.skip_none; rfl; rfl) | (apply TL.val; rfl; rfl; (apply V.sliceTo (s := p1.2); rfl; rfl; rfl; rfl; rfl; (constructor <;> omega); exact hcp1)) | (apply TL.x; rfl; rfl; (apply X.callFE (d := 49) (f := 11) [(p1.2.to ((p1.2.len : Int) - 8).toNat).v] Tryd.call11; rfl; rfl; rfl; exact (fun _ hs => c_sealed (p1.2.to ((p1.2.len : Int) - 8).toNat) _ _ hs.sat hgf (by omega))); intro p3 hp3; have hR := Rules.mono hp3.2 hR; have hr := hr.mono hp3.2; have hb1 := hb1.mono hp3.2; have hgf := hgf.mono hp3.2) | (apply TL.callE (f := 10) [p3.2.v, p1.2.v] Tryd.call10; rfl; rfl; rfl; rfl; (exact fun _ hs => c_Bytes2T p3.2 p1.2 (hp3.1.1.trans (by rw [hfe, ← hBs, he1])) hs.sat hp3.1.2 hb1)) | (apply TL.val; rfl; rfl; (apply V.conv; rfl; rfl; rfl; rfl; exact IntWalk.i64_in _ (by omega))) | (apply TL.val; rfl; rfl; (apply V.remN (i := at_) (j := ((p1.2.len : Int) - 8).toNat); rfl; rfl; omega)) | (apply TL.val; rfl; rfl; (apply V.sliceTo (s := p1.2.to ((p1.2.len : Int) - 8).toNat); rfl; rfl; rfl; rfl; rfl; (constructor <;> omega); exact hgc)) | (apply TL.x; rfl; rfl; (apply X.callFE (d := 61) (f := 11) [((p1.2.to ((p1.2.len : Int) - 8).toNat).to ((at_ % ((p1.2.len : Int) - 8).toNat : Nat) : Int).toNat).v] Tryd.call11; rfl; rfl; rfl; exact (fun _ hs => c_sealed ((p1.2.to ((p1.2.len : Int) - 8).toNat).to ((at_ % ((p1.2.len : Int) - 8).toNat : Nat) : Int).toNat) _ _ hs.sat (hgf.to hgi) (by omega))); intro p4 hp4; have hR := Rules.mono hp4.2 hR; have hr := hr.mono hp4.2; have hgf := hgf.mono hp4.2) | (apply TL.x; rfl; rfl; (apply X.callFE (d := 62) (f := 8) [p4.2.v] Tryd.call8; rfl; rfl; rfl; exact (fun _ hs => c_pReadL (mc := (readC (sealB ((p1.2.to ((p1.2.len : Int) - 8).toNat).to ((at_ % ((p1.2.len : Int) - 8).toNat : Nat) : Int).toNat).els)).1) (e := 10) (by rw [hp4.1.1]; exact h5) hs.sat hR hp4.1.2)); intro p5 hp5; have hR := Rules.mono hp5.2 hR; have hr := hr.mono hp5.2; have hgf := hgf.mono hp5.2) | (apply TL.x; rfl; rfl; (apply X.storeTo 0 (enc p5.2); rfl; rfl; rfl; rfl; rfl; rfl; rfl; rfl; rfl; rfl); intro _ _) | (apply TL.x; rfl; rfl; (apply X.buildSlice0; rfl; rfl; rfl; rfl); intro _ _) | (apply TL.x; rfl; rfl; (apply X.appendSlc (d := 68) 0 (p1.2.to ((p1.2.len : Int) - 8).toNat); rfl; rfl; rfl; rfl; rfl; rfl; rfl; rfl; rfl; rfl; exact hgf; (show (0 + (p1.2.to ((p1.2.len : Int) - 8).toNat).len) * 1 ≤ 140737488355328; omega); omega); intro v68 _) | (apply TL.x; rfl; rfl; (apply X.appendSlc (d := 70) 0 r; rfl; rfl; rfl; rfl; rfl; rfl; rfl; rfl; rfl; rfl; exact hr; (show (0 + (p1.2.to ((p1.2.len : Int) - 8).toNat).len + r.len) * 1 ≤ 140737488355328; omega); omega); intro v70 _; apply TL.frzRowE 0 ((p1.2.to ((p1.2.len : Int) - 8).toNat).els ++ r.els); rfl; rfl; (rw [encs_append]; rfl); (rw [List.length_append, hgf.len, hr.len, Nat.zero_add]); (intro _ _; trivial); intro H6 s6 e1 e2 hg6 hle6; subst e1; have hR := Rules.mono hle6 hR; have hl6 := hg6.len) | (apply TL.x; rfl; rfl; (apply X.callFE (d := 71) (f := 11) [s6.v] Tryd.call11; rfl; rfl; rfl; exact (fun _ hs => c_sealed s6 _ _ hs.sat hg6 (by rw [← hl6, e2, List.length_append, hgf.len, hr.len]; omega))); intro p6 hp6; have hR := Rules.mono hp6.2 hR) | (apply TL.x; rfl; rfl; (apply X.callFE (d := 72) (f := 8) [p6.2.v] Tryd.call8; rfl; rfl; rfl; exact (fun _ hs => c_pReadL (mc := (readC (sealB ((p1.2.to ((p1.2.len : Int) - 8).toNat).els ++ r.els))).1) (e := e7) (by rw [hp6.1.1, e2]; exact h7) hs.sat hR hp6.1.2)); intro p7 hp7) | (apply TL.x; rfl; rfl; (apply X.storeTo 0 (enc p7.2); rfl; rfl; rfl; rfl; rfl; rfl; rfl; rfl; rfl; rfl); intro _ _) | (apply TL.val; rfl; rfl; (apply V.eqlT; rfl; rfl)) | (apply TL.val; rfl; rfl; (apply V.beql; exact Tryd.underlying4; rfl; rfl)) | (apply TL.val; rfl; rfl; (first | exact vpure | exact vread)) | (apply TL.x; rfl; rfl; (first | exact xgrow | exact xput); intro _ _) | (apply TL.guard; rfl; rfl; rfl; (with_reducible (first | exact Is.ndec | exact Is.dec | exact Is.not | ((fail_if_success exact Is.litT); (fail_if_success exact Is.litF); exact Is.base))); intro _; rotate_left; intro _; rotate_right)))
    all_goals (try (exfalso; omega))
    all_goals (try contradiction)
    have hiff : (r.len : Int) = 0 ↔ e7 = 0 := by
      rw [h70]
      constructor
      · intro h; exact List.eq_nil_of_length_eq_zero (by omega)
      · intro h; rw [h] at hrl; simp at hrl; omega
    all_goals (try (first | (apply N.ret_bool; rfl; (exact rvx)) | (apply N.ret_int; rfl; (exact rvx)) | (apply N.ret_val; rfl; (exact rvx))))
    all_goals (rw [decide_eq_decide.2 hiff, beq_self_eq_true])
  · have hbe := bytes_err hb he
    have hl0 : B.length = 0 := by rw [hbe.1]; rfl
    repeat (any_goals (first | refine T.seq ?_ | refine T.region ?_ | refine TL.nil ?_ | refine N.next ?_ | refine N.inBlock ?_ | refine N.exit_same ?_ | refine N.exit_then ?_ | refine N.ret_then ?_ | refine N.ret_block ?_ | (apply N.exit_other; rfl) | refine T.ret ?_ | refine T.skip ?_ | refine T.exit ?_ | refine T.block ?_ | (apply T.cond_true; rfl) | (apply T.cond_false; rfl) | (apply T.test; rfl; (with_reducible (first | exact Is.ndec | exact Is.dec | exact Is.not | ((fail_if_success exact Is.litT); (fail_if_success exact Is.litF); exact Is.base))); intro _; rotate_left; intro _; rotate_right) | (apply TL.skip; rfl; rfl; rfl) | (apply TL.skip_none; rfl; rfl) | (apply TL.val; rfl; rfl; (first | exact vpure | exact vread)) | (apply TL.x; rfl; rfl; (first | exact xgrow | exact xput); intro _ _) | (apply TL.guard; rfl; rfl; rfl; (with_reducible (first | exact Is.ndec | exact Is.dec | exact Is.not | ((fail_if_success exact Is.litT); (fail_if_success exact Is.litF); exact Is.base))); intro _; rotate_left; intro _; rotate_right)))
    all_goals (try (exfalso; omega))
    all_goals (try (first | (apply N.ret_bool; rfl; (exact rvx)) | (apply N.ret_int; rfl; (exact rvx)) | (apply N.ret_val; rfl; (exact rvx))))
    all_goals first
      | rfl
      | exact decide_eq_true (by omega)
theorem c_PCut (m : Msg) (at_ : Int) (r : Slc UInt8) (H : Hp) (w : World) (hs : Sat H w) (hR : Rules H) (hm : Enc.good H m) (hat : 0 ≤ at_ ∧ at_ ≤ 65535) (hr : r.Good H) : Calls Tryd.prog 4 #[.agg (enc m).toArray, .int .u16 at_, r.v] w (Ret w (.bool true)) := by
  have e1 : at_ = ((at_.toNat : Nat) : Int) := by omega
  rw [e1]
  exact c_PCut0 m at_.toNat r H w hs hR hm (by omega) hr
end Go.Proofs.YtogcofeencgipaaDoor
