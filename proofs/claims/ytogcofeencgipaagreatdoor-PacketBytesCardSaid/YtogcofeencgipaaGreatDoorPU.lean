/- The law PacketBytes. -/
import Derived.Test.YtogcofeencgipaaGreatDoorPR
set_option pp.deepTerms true
set_option pp.maxSteps 10000000
namespace Go.Proofs.YtogcofeencgipaaGreatDoor
set_option linter.unusedVariables false
set_option linter.unusedSimpArgs false
open Go Go.RowKit
open Enc (enc)
set_option maxRecDepth 20000
theorem c_Bytes2 (a b : Slc UInt8) (H : Hp) (w : World) (hs : Sat H w) (ha : a.Good H) (hb : b.Good H) : Calls Tryz.prog 21 #[a.v, b.v] w (Ret w (.bool (decide (a.els = b.els)))) := by
  refine T.enter (vs := [a.v, b.v]) (H := H) Tryz.func21 rfl rfl rfl hs ?_
  repeat (any_goals (first | refine T.seq ?_ | refine T.region ?_ | refine TL.nil ?_ | refine N.next ?_ | refine N.inBlock ?_ | refine N.exit_same ?_ | refine N.exit_then ?_ | refine N.ret_then ?_ | refine N.ret_block ?_ | (apply N.exit_other; rfl) | refine T.ret ?_ | refine T.skip ?_ | refine T.exit ?_ | refine T.block ?_ | (apply T.cond_true; rfl) | (apply T.cond_false; rfl) | (apply T.test; rfl; (with_reducible (first | exact Is.ndec | exact Is.dec | exact Is.not | ((fail_if_success exact Is.litT); (fail_if_success exact Is.litF); exact Is.base))); intro _; rotate_left; intro _; rotate_right) | (apply TL.skip; rfl; rfl; rfl) | (apply TL.skip_none; rfl; rfl) | (apply TL.val; rfl; rfl; (apply V.bytesStr (q := a); rfl; rfl; rfl; rfl; rfl; rfl; rfl; exact ha)) | (apply TL.val; rfl; rfl; (apply V.bytesStr (q := b); rfl; rfl; rfl; rfl; rfl; rfl; rfl; exact hb)) | (apply TL.val; rfl; rfl; (first | exact vpure | exact vread)) | (apply TL.x; rfl; rfl; (first | exact xgrow | exact xput); intro _ _) | (apply TL.guard; rfl; rfl; rfl; (with_reducible (first | exact Is.ndec | exact Is.dec | exact Is.not | ((fail_if_success exact Is.litT); (fail_if_success exact Is.litF); exact Is.base))); intro _; rotate_left; intro _; rotate_right)))
  all_goals (try (first | (apply N.ret_bool; rfl; (exact rvx)) | (apply N.ret_int; rfl; (exact rvx)) | (apply N.ret_val; rfl; (exact rvx))))
  rfl
theorem c_Bytes2T (a b : Slc UInt8) (h : a.els = b.els) {H : Hp} {w : World} (hs : Sat H w) (ha : a.Good H) (hb : b.Good H) : Calls Tryz.prog 21 #[a.v, b.v] w (Ret w (.bool true)) := by
  have := c_Bytes2 a b H w hs ha hb
  rwa [decide_eq_true h] at this
theorem sums_ok {H : Hp} {m : Msg} (h : Enc.good H m) : SumsOK m.c := by
  intro s hs g hg
  obtain ⟨y, hy, rfl⟩ := List.mem_map.1 (show s ∈ m.ans.sets.els.map Signed.c from hs)
  have h1 : m.ans.sets.Good H := h.2.2.2.2.2.2.1
  have h2 : y.sigs.Good H := (h1.els y hy).2
  exact (h2.els g hg).2.2.2.2.2
set_option maxHeartbeats 4000000 in
theorem c_PBytes (m : Msg) (x : Slc UInt8) (H : Hp) (w : World) (hs : Sat H w) (hR : Rules H) (hm : Enc.good H m) (hx : x.Good H) : Calls Tryz.prog 4 #[.agg (enc m).toArray, x.v] w (Ret w (.bool true)) := by
  have hsum := sums_ok hm
  have hxl := hx.lim
  have hxlen := hx.len
  obtain ⟨⟨B, e⟩, hb⟩ : ∃ p, bytesC m.c = p := ⟨_, rfl⟩
  obtain ⟨⟨n, f⟩, hr⟩ : ∃ p, readC x.els = p := ⟨_, rfl⟩
  refine T.enter (vs := [.agg (enc m).toArray, x.v]) (H := H) Tryz.func4 rfl rfl rfl hs ?_
  repeat (any_goals (first | (apply T.seqU 11; rfl) | refine T.region ?_ | refine TL.nil ?_ | refine N.next ?_ | refine N.inBlock ?_ | refine N.exit_same ?_ | refine N.exit_then ?_ | refine N.ret_then ?_ | refine N.ret_block ?_ | (apply N.exit_other; rfl) | refine T.ret ?_ | refine T.skip ?_ | refine T.exit ?_ | refine T.block ?_ | (apply T.cond_true; rfl) | (apply T.cond_false; rfl) | (apply T.test; rfl; (with_reducible (first | exact Is.ndec | exact Is.dec | exact Is.not | ((fail_if_success exact Is.litT); (fail_if_success exact Is.litF); exact Is.base))); intro _; rotate_left; intro _; rotate_right) | (apply TL.skip; rfl; rfl; rfl) | (apply TL.skip_none; rfl; rfl) | (apply TL.x; rfl; rfl; (apply X.box (d := 2); rfl; rfl; rfl); intro b2 _) | (apply TL.callE (f := 13) [] Tryz.call13; rfl; rfl; rfl; rfl; (exact fun _ hs => c_head26 _ _ hs.sat hR)) | (apply TL.callE (f := 14) [.agg (enc m).toArray] Tryz.call14; rfl; rfl; rfl; rfl; (exact fun _ hs => c_Few26 m _ _ hs.sat hm)) | (apply TL.x; rfl; rfl; (apply X.callFE (d := 26) (f := 15) [.agg (enc m).toArray] Tryz.call15; rfl; rfl; rfl; exact (fun _ hs => c_pBytesL (m := m) hb hs.sat hR hm)); intro p1 hp1; have hR := Rules.mono hp1.2 hR; have hb1 := hp1.1.2; have hl1 := hp1.1.2.len; have hlm1 := hp1.1.2.lim; have hm1 := Enc.mono hp1.2 hm) | (apply TL.val; rfl; rfl; (first | exact vpure | exact vread)) | (apply TL.x; rfl; rfl; (first | exact xgrow | exact xput); intro _ _) | (apply TL.guard; rfl; rfl; rfl; (with_reducible (first | exact Is.ndec | exact Is.dec | exact Is.not | ((fail_if_success exact Is.litT); (fail_if_success exact Is.litF); exact Is.base))); intro _; rotate_left; intro _; rotate_right)))
  all_goals (try exact N.ret_bool rfl (by (exact rvx)) rfl)
  have he1 := hp1.1.1
  rw [he1] at hl1
  have hle1 : H.le p1.1 := hp1.2
  refine T.cut (G := Hp) (fun _ => [(5, .bool true), (1, x.v)]) (fun g => g) (fun _ => []) (fun g => p1.1.le g) ?_ ?_
  · have hcut : ∀ {H2 : Hp}, p1.1.le H2 → p1.1.le H2 := fun h => h
    repeat (any_goals (first | refine T.seq ?_ | refine T.region ?_ | refine TL.nil ?_ | refine N.next ?_ | refine N.inBlock ?_ | refine N.exit_same ?_ | refine N.exit_then ?_ | refine N.ret_then ?_ | refine N.ret_block ?_ | (apply N.exit_other; rfl) | refine T.ret ?_ | refine T.skip ?_ | refine T.exit ?_ | refine T.block ?_ | (apply T.cond_true; rfl) | (apply T.cond_false; rfl) | (apply T.test; rfl; (with_reducible (first | exact Is.ndec | exact Is.dec | exact Is.not | ((fail_if_success exact Is.litT); (fail_if_success exact Is.litF); exact Is.base))); intro _; rotate_left; intro _; rotate_right) | (apply TL.skip; rfl; rfl; rfl) | (apply TL.skip_none; rfl; rfl) | (apply TL.x; rfl; rfl; (apply X.callFE (d := 33) (f := 17) [p1.2.v] Tryz.call17; rfl; rfl; rfl; exact (fun _ hs => c_pReadL (mc := m.c) (e := 0) (by rw [he1]; exact (read_bytes (hb.trans (by rw [show e = 0 by omega])) hsum).1) hs.sat hR hb1)); intro p2 hp2; have hR := Rules.mono hp2.2 hR; have hm1 := Enc.mono hp2.2 hm1; have hm2 := hp2.1.2; have hB4 := (read_bytes (hb.trans (by rw [show e = 0 by omega])) hsum).2.1) | (apply TL.x; rfl; rfl; (apply X.storeTo 0 (enc p2.2); rfl; rfl; rfl; rfl; rfl; rfl; rfl; rfl; rfl; rfl); intro _ _) | (apply TL.val; rfl; rfl; (apply V.eqlT; rfl; rfl)) | (apply TL.callE (f := 22) [.agg (enc m).toArray, .agg (enc p2.2).toArray] Tryz.call22; rfl; rfl; rfl; rfl; (exact fun _ hs => c_SameMsgV (r := true) m p2.2 (decide_eq_true hp2.1.1.symm) hs.sat hm1 hm2)) | (apply TL.callE (f := 19) [.agg (enc m).toArray] Tryz.call19; rfl; rfl; rfl; rfl; (exact fun _ hs => c_packetValidV (r := true) m (read_bytes (hb.trans (by rw [show e = 0 by omega])) hsum).2.2.1 hs.sat hR hm1)) | (apply TL.callE (f := 20) [.agg (enc m).toArray] Tryz.call20; rfl; rfl; rfl; rfl; (exact fun _ hs => c_Valid26 m _ _ hs.sat hm1)) | (apply TL.val; rfl; rfl; (first | exact vpure | exact vread)) | (apply TL.x; rfl; rfl; (first | exact xgrow | exact xput); intro _ _) | (apply TL.guard; rfl; rfl; rfl; (with_reducible (first | exact Is.ndec | exact Is.dec | exact Is.not | ((fail_if_success exact Is.litT); (fail_if_success exact Is.litF); exact Is.base))); intro _; rotate_left; intro _; rotate_right)))
    all_goals (try contradiction)
    all_goals (try (exfalso; omega))
    all_goals first
      | exact N.cut p2.1 hp2.2 (by (repeat (first | exact True.intro | refine ⟨rfl, ?_⟩ | refine Sub.int rfl (by omega) ?_))) rfl (List.nil_sublist _)
      | exact N.cut p1.1 (Hp.le.refl _) (by (repeat (first | exact True.intro | refine ⟨rfl, ?_⟩ | refine Sub.int rfl (by omega) ?_))) rfl (List.nil_sublist _)
      | (exfalso
         have hbe := bytes_err hb (by omega)
         have hl0 : B.length = 0 := by rw [hbe.1]; rfl
         first
           | omega
           | (have := hbe.2 (by assumption); omega))
  · intro H2 hle2
    have hR2 := Rules.mono hle2 hR
    have hx2 := (hx.mono hle1).mono hle2
    repeat (any_goals (first | refine T.seq ?_ | refine T.region ?_ | refine TL.nil ?_ | refine N.next ?_ | refine N.inBlock ?_ | refine N.exit_same ?_ | refine N.exit_then ?_ | refine N.ret_then ?_ | refine N.ret_block ?_ | (apply N.exit_other; rfl) | refine T.ret ?_ | refine T.skip ?_ | refine T.exit ?_ | refine T.block ?_ | (apply T.cond_true; rfl) | (apply T.cond_false; rfl) | (apply T.test; rfl; (with_reducible (first | exact Is.ndec | exact Is.dec | exact Is.not | ((fail_if_success exact Is.litT); (fail_if_success exact Is.litF); exact Is.base))); intro _; rotate_left; intro _; rotate_right) | (apply TL.skip; rfl; rfl; rfl) | (apply TL.skip_none; rfl; rfl) | (apply TL.x; rfl; rfl; (apply X.callFE (d := 67) (f := 17) [x.v] Tryz.call17; rfl; rfl; rfl; exact (fun _ hs => c_pReadL hr hs.sat hR2 hx2)); intro p3 hp3; have hR3 := Rules.mono hp3.2 hR2; have hx3 := hx2.mono hp3.2; have hm3 := hp3.1.2) | (apply TL.x; rfl; rfl; (apply X.storeTo 0 (enc p3.2); rfl; rfl; rfl; rfl; rfl; rfl; rfl; rfl; rfl; rfl); intro _ _) | (apply TL.val; rfl; rfl; (apply V.build; rfl; rfl; rfl; rfl; rfl; rfl)) | (apply TL.callE (f := 22) [.agg (enc p3.2).toArray, .agg (enc msgZ).toArray] Tryz.call22; rfl; rfl; rfl; rfl; (exact fun _ hs => c_SameMsgV (r := true) p3.2 msgZ (decide_eq_true (hp3.1.1.trans (read_err hr (by omega)))) hs.sat hm3 (msgZ_good _))) | (apply TL.x; rfl; rfl; (apply X.callFE (d := 80) (f := 15) [.agg (enc p3.2).toArray] Tryz.call15; rfl; rfl; rfl; exact (fun _ hs => c_pBytesL (m := p3.2) (B := x.els) (e := 0) (by rw [hp3.1.1]; exact bytes_read (hr.trans (by rw [show f = 0 by omega]))) hs.sat hR3 hm3)); intro p4 hp4; have hx4 := hx3.mono hp4.2) | (apply TL.val; rfl; rfl; (apply V.eqlT; rfl; rfl)) | (apply TL.callE (f := 21) [x.v, p4.2.v] Tryz.call21; rfl; rfl; rfl; rfl; (exact fun _ hs => c_Bytes2T x p4.2 hp4.1.1.symm hs.sat hx4 hp4.1.2)) | (apply TL.val; rfl; rfl; (first | exact vpure | exact vread)) | (apply TL.x; rfl; rfl; (first | exact xgrow | exact xput); intro _ _) | (apply TL.guard; rfl; rfl; rfl; (with_reducible (first | exact Is.ndec | exact Is.dec | exact Is.not | ((fail_if_success exact Is.litT); (fail_if_success exact Is.litF); exact Is.base))); intro _; rotate_left; intro _; rotate_right)))
    all_goals (try contradiction)
    all_goals (try exact N.ret_bool rfl (by (exact rvx)) rfl)
    all_goals trace_state
end Go.Proofs.YtogcofeencgipaaGreatDoor
