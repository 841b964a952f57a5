/- Walks: the sum of a set, signing. -/
import Derived.Test.YtpnoabbdcakjkaaGreatDoorQTC
import Derived.Test.YtpnoabbdcakjkaaGreatDoorQWH
namespace Go.Proofs.YtpnoabbdcakjkaaGreatDoor
set_option linter.unusedVariables false
set_option linter.unusedSimpArgs false
open Go Go.RowKit
open Enc (enc)
set_option maxRecDepth 20000

theorem num8_eq {l : Bytes} {n : Int} (h8 : l.length = 8) (h : ∀ j, j < 8 → l[j]? = (num8 n)[j]?) : l = num8 n := by
  apply List.ext_getElem?
  intro j
  by_cases hj : j < 8
  · exact h j hj
  · rw [List.getElem?_eq_none (by omega), List.getElem?_eq_none (by rw [num8_len]; omega)]
section
variable {w0 w : World} {H0 H : Hp} {L : List Loc}
set_option maxHeartbeats 2000000 in
theorem c_sum1 (d : Int) (s : Slc Int) (b : Nat) (bt : TypeId) (hs : St w0 H0 H (.blk b bt [.int .u64 d] :: L) w) (hg : s.Good H) (hd : 0 ≤ d ∧ d < 18446744073709551616) : CallsIn (FW none) 0 Tryz.prog 119 #[s.v, .pointer (some ⟨b, 0, none⟩)] w (fun e w' => ∃ g : Hp, H.le g ∧ e = .returned (.tuple #[]) ∧ St w0 H0 g (.blk b bt [.int .u64 (digest d (s.els.flatMap num8))] :: L) w') := by
  have hlen := hg.len
  have hlim := hg.lim
  refine T.enterIn (vs := [s.v, .pointer (some ⟨b, 0, none⟩)]) Tryz.func119 rfl rfl rfl hs ?_
  repeat (any_goals (first | refine T.seq ?_ | refine T.region ?_ | refine TL.nil ?_ | refine N.next ?_ | refine N.inBlock ?_ | refine N.exit_same ?_ | refine N.exit_then ?_ | refine N.ret_then ?_ | refine N.ret_block ?_ | (apply N.exit_other; rfl) | refine T.ret ?_ | refine T.skip ?_ | refine T.exit ?_ | refine T.block ?_ | (apply T.cond_true; rfl) | (apply T.cond_false; rfl) | (apply T.test; rfl; (exact isx); intro _; rotate_left; intro _; rotate_right) | (apply TL.skip; rfl; rfl; rfl) | (apply TL.skip_none; rfl; rfl) | (apply TL.val; rfl; rfl; (first | exact vpure | exact vread)) | (apply TL.x; rfl; rfl; (first | exact xgrow | exact xput); intro _ _) | (apply TL.guard; rfl; rfl; rfl; (exact isx); intro _; rotate_left; intro _; rotate_right)))
  refine T.loop (G := Nat × Hp) (fun g => [(1, .pointer (some ⟨b, 0, none⟩)), (7, s.v), (8, intV s.len), (9, intV g.1)]) (fun g => g.2) (fun g => .blk b bt [.int .u64 (digest d ((s.els.take g.1).flatMap num8))] :: L) (fun g => g.1 ≤ s.len ∧ H.le g.2) (fun g => s.len - g.1) (0, H) ⟨Nat.zero_le _, .refl _⟩ (by (repeat (first | exact True.intro | refine ⟨rfl, ?_⟩ | refine Sub.int rfl (by omega) ?_))) rfl (by (first | exact List.Sublist.refl _ | exact List.nil_sublist _ | exact List.Sublist.cons _ (List.Sublist.refl _) | exact List.Sublist.cons _ (List.Sublist.cons _ (List.Sublist.refl _)))) ?_
  rintro ⟨k, H1⟩ ⟨hk, hle⟩
  simp only at hk hle ⊢
  have hg1 := hg.mono hle
  by_cases hlt : k < s.len
  · have hkk : k < s.els.length := by omega
    obtain ⟨D, hD⟩ : ∃ D, D = digest d ((s.els.take k).flatMap num8) := ⟨_, rfl⟩
    have hdr := dig_range hd ((s.els.take k).flatMap num8)
    rw [← hD] at hdr ⊢
    repeat (any_goals (first | refine T.seq ?_ | refine T.region ?_ | refine TL.nil ?_ | refine N.next ?_ | refine N.inBlock ?_ | refine N.exit_same ?_ | refine N.exit_then ?_ | refine N.ret_then ?_ | refine N.ret_block ?_ | (apply N.exit_other; rfl) | refine T.ret ?_ | refine T.skip ?_ | refine T.exit ?_ | refine T.block ?_ | (apply T.cond_true; rfl) | (apply T.cond_false; rfl) | (apply T.test; rfl; (exact isx); intro _; rotate_left; intro _; rotate_right) | (apply TL.skip; rfl; rfl; rfl) | (apply TL.skip_none; rfl; rfl) | (apply TL.val; rfl; rfl; (first | exact vpure | exact vread)) | (apply TL.x; rfl; rfl; (first | exact xgrow | exact xput); intro _ _) | (apply TL.guard; rfl; rfl; rfl; (exact isx); intro _; rotate_left; intro _; rotate_right)))
    all_goals (try (exfalso; omega))
    rename_i b5 _
    obtain ⟨n0, hn0⟩ : ∃ n0, n0 = s.els[k]'hkk := ⟨_, rfl⟩
    refine T.loop (G := Nat × Bytes) (fun g => [(1, .pointer (some ⟨b, 0, none⟩)), (7, s.v), (8, intV s.len), (9, intV k), (4, intV n0), (5, .pointer (some ⟨b5, 0, none⟩)), (13, intV g.1)]) (fun _ => H1) (fun g => .blk b5 185 (encs g.2) :: .blk b bt [.int .u64 D] :: L) (fun g => g.1 ≤ 8 ∧ g.2.length = 8 ∧ ∀ j, j < g.1 → g.2[j]? = (num8 n0)[j]?) (fun g => 8 - g.1) (0, List.replicate 8 0) ⟨Nat.zero_le _, rfl, fun j h => by omega⟩ (by subst hn0; (repeat (first | exact True.intro | refine ⟨rfl, ?_⟩ | refine Sub.int rfl (by omega) ?_))) rfl (by exact List.Sublist.refl _) ?_
    rintro ⟨i, l⟩ ⟨hi, hl8, hrel⟩
    simp only at hi hl8 hrel ⊢
    by_cases hi8 : i < 8
    · obtain ⟨c, hcg, hcw⟩ : ∃ c : UInt8, (num8 n0)[i]? = some c ∧ IntKind.u8.wrap ((IntKind.u64.wrap n0).fdiv (2 ^ (56 - 8 * (i : Int)).toNat)) = (c.toNat : Int) := ⟨_, num8_get n0 hi8, num8_wrap n0 _ i hi8 rfl⟩
      repeat (any_goals (first | refine T.seq ?_ | refine T.region ?_ | refine TL.nil ?_ | refine N.next ?_ | refine N.inBlock ?_ | refine N.exit_same ?_ | refine N.exit_then ?_ | refine N.ret_then ?_ | refine N.ret_block ?_ | (apply N.exit_other; rfl) | refine T.ret ?_ | refine T.skip ?_ | refine T.exit ?_ | refine T.block ?_ | (apply T.cond_true; rfl) | (apply T.cond_false; rfl) | (apply T.test; rfl; (exact isx); intro _; rotate_left; intro _; rotate_right) | (apply TL.skip; rfl; rfl; rfl) | (apply TL.skip_none; rfl; rfl) | (apply TL.val; rfl; rfl; (apply V.convW (r := .u64); (iterate 5 rfl))) | (apply TL.val; rfl; rfl; (apply V.convW (r := .u8); (iterate 4 rfl); exact hcw)) | (apply TL.val; rfl; rfl; (apply V.shrU; rfl; rfl; (constructor <;> omega))) | (apply TL.val; rfl; rfl; (apply V.elemArr (j := i); (iterate 6 rfl); exact hi8)) | (apply TL.val; rfl; rfl; (first | exact vpure | exact vread)) | (apply TL.x; rfl; rfl; (first | exact xgrow | exact xput); intro _ _) | (apply TL.guard; rfl; rfl; rfl; (exact isx); intro _; rotate_left; intro _; rotate_right)))
      all_goals (try (exfalso; omega))
      refine TL.x rfl rfl (X.storeTo 0 (encs (l.set i c)) (vs := [.int .u8 c.toNat]) rfl rfl rfl rfl rfl rfl rfl (Nat.ble_eq_true_of_le (by rw [encs_byte, hl8]; show 0 + i * 1 + 1 ≤ 8; omega)) (encs_put (x := l[i]'(by omega)) (vs := [.int .u8 c.toNat]) (y := c) (j := 0) (List.getElem?_eq_getElem (by omega)) (Nat.le_refl 1) rfl (by show 0 + i * 1 = i * 1 + 0; omega)) rfl) ?_
      intro _ _
      repeat (any_goals (first | refine T.seq ?_ | refine T.region ?_ | refine TL.nil ?_ | refine N.next ?_ | refine N.inBlock ?_ | refine N.exit_same ?_ | refine N.exit_then ?_ | refine N.ret_then ?_ | refine N.ret_block ?_ | (apply N.exit_other; rfl) | refine T.ret ?_ | refine T.skip ?_ | refine T.exit ?_ | refine T.block ?_ | (apply T.cond_true; rfl) | (apply T.cond_false; rfl) | (apply T.test; rfl; (exact isx); intro _; rotate_left; intro _; rotate_right) | (apply TL.skip; rfl; rfl; rfl) | (apply TL.skip_none; rfl; rfl) | (apply TL.val; rfl; rfl; (first | exact vpure | exact vread)) | (apply TL.x; rfl; rfl; (first | exact xgrow | exact xput); intro _ _) | (apply TL.guard; rfl; rfl; rfl; (exact isx); intro _; rotate_left; intro _; rotate_right)))
      refine N.round (i + 1, l.set i c) ⟨by show i + 1 ≤ 8; omega, by simp [hl8], fun j hj => ?_⟩ (by show 8 - (i + 1) < 8 - i; omega) (by (repeat (first | exact True.intro | refine ⟨rfl, ?_⟩ | refine Sub.int rfl (by omega) ?_))) rfl (by (first | exact List.Sublist.refl _ | exact List.nil_sublist _ | exact List.Sublist.cons _ (List.Sublist.refl _) | exact List.Sublist.cons _ (List.Sublist.cons _ (List.Sublist.refl _))))
      by_cases hji : j = i
      · subst hji
        rw [hcg]
        simp [hl8, hi8]
      · rw [List.getElem?_set_ne (by omega)]
        exact hrel j (by simp only at hj; omega)
    · have hi0 : i = 8 := by omega
      subst hi0
      have hln : l = num8 n0 := num8_eq hl8 hrel
      repeat (any_goals (first | refine T.seq ?_ | refine T.region ?_ | refine TL.nil ?_ | refine N.next ?_ | refine N.inBlock ?_ | refine N.exit_same ?_ | refine N.exit_then ?_ | refine N.ret_then ?_ | refine N.ret_block ?_ | (apply N.exit_other; rfl) | refine T.ret ?_ | refine T.skip ?_ | refine T.exit ?_ | refine T.block ?_ | (apply T.cond_true; rfl) | (apply T.cond_false; rfl) | (apply T.test; rfl; (exact isx); intro _; rotate_left; intro _; rotate_right) | (apply TL.skip; rfl; rfl; rfl) | (apply TL.skip_none; rfl; rfl) | (apply TL.val; rfl; rfl; (apply V.sliceArr; (iterate 4 rfl)); apply TL.frzBlk 0 (els := l) (m := 8) rfl rfl hl8 (by decide) (by intro _ _; trivial); intro H2 hn2 hle2) | (apply TL.x; rfl; rfl; (apply X.callS0 Tryz.call120; rfl; rfl; exact fun _ hs => c_add D ⟨some ⟨b5, 0, none⟩, 8, 8, l⟩ b bt hs hn2 hdr); intro _ _) | (apply TL.val; rfl; rfl; (first | exact vpure | exact vread)) | (apply TL.x; rfl; rfl; (first | exact xgrow | exact xput); intro _ _) | (apply TL.guard; rfl; rfl; rfl; (exact isx); intro _; rotate_left; intro _; rotate_right)))
      all_goals (try (exfalso; omega))
      refine N.round (k + 1, H2) ⟨by show k + 1 ≤ _; omega, hle.trans hle2⟩ (by show s.len - (k + 1) < s.len - k; omega) (by (repeat (first | exact True.intro | refine ⟨rfl, ?_⟩ | refine Sub.int rfl (by omega) ?_))) rfl ?_
      have e1 : digest d ((s.els.take (k + 1)).flatMap num8) = digest D l := by
        rw [List.take_add_one, List.getElem?_eq_getElem hkk, List.flatMap_append, digest_app, ← hD, hln, hn0]
        simp
      show List.Sublist (.blk b bt [.int .u64 (digest d ((s.els.take (k + 1)).flatMap num8))] :: L) _
      rw [e1]
      exact List.Sublist.refl _
  · have hke : k = s.len := by omega
    subst hke
    repeat (any_goals (first | refine T.seq ?_ | refine T.region ?_ | refine TL.nil ?_ | refine N.next ?_ | refine N.inBlock ?_ | refine N.exit_same ?_ | refine N.exit_then ?_ | refine N.ret_then ?_ | refine N.ret_block ?_ | (apply N.exit_other; rfl) | refine T.ret ?_ | refine T.skip ?_ | refine T.exit ?_ | refine T.block ?_ | (apply T.cond_true; rfl) | (apply T.cond_false; rfl) | (apply T.test; rfl; (exact isx); intro _; rotate_left; intro _; rotate_right) | (apply TL.skip; rfl; rfl; rfl) | (apply TL.skip_none; rfl; rfl) | (apply TL.val; rfl; rfl; (first | exact vpure | exact vread)) | (apply TL.x; rfl; rfl; (first | exact xgrow | exact xput); intro _ _) | (apply TL.guard; rfl; rfl; rfl; (exact isx); intro _; rotate_left; intro _; rotate_right)))
    all_goals (try (exfalso; omega))
    apply N.end0; rfl
    intro w1 hst
    refine ⟨H1, hle, rfl, ?_⟩
    rw [List.take_of_length_le (by omega)] at hst
    exact hst
theorem c_addG (d : Int) (s : Slc UInt8) (b : Nat) (bt : TypeId) (hs : St w0 H0 H (.blk b bt [.int .u64 d] :: L) w) (hg : s.Good H) (hd : 0 ≤ d ∧ d < 18446744073709551616) : CallsIn (FW none) 0 Tryz.prog 120 #[.pointer (some ⟨b, 0, none⟩), s.v] w (fun e w' => ∃ g : Int, (g = digest d s.els ∧ 0 ≤ g ∧ g < 18446744073709551616) ∧ e = .returned (.tuple #[]) ∧ St w0 H0 H (.blk b bt [.int .u64 g] :: L) w') :=
  CallsIn.mono (c_add d s b bt hs hg hd) fun _ _ ⟨_, _, h1, h2⟩ => ⟨_, ⟨rfl, dig_range hd _⟩, h1, h2⟩
theorem c_sum1G (d : Int) (s : Slc Int) (b : Nat) (bt : TypeId) (hs : St w0 H0 H (.blk b bt [.int .u64 d] :: L) w) (hg : s.Good H) (hd : 0 ≤ d ∧ d < 18446744073709551616) : CallsIn (FW none) 0 Tryz.prog 119 #[s.v, .pointer (some ⟨b, 0, none⟩)] w (fun e w' => ∃ g : Hp × Int, (g.2 = digest d (s.els.flatMap num8) ∧ H.le g.1) ∧ e = .returned (.tuple #[]) ∧ St w0 H0 g.1 (.blk b bt [.int .u64 g.2] :: L) w') :=
  CallsIn.mono (c_sum1 d s b bt hs hg hd) fun _ _ ⟨H1, hle, h1, h2⟩ => ⟨(H1, _), ⟨rfl, hle⟩, h1, h2⟩
set_option maxHeartbeats 2000000 in
theorem c_sum (s : Slc UInt8) (zone : Bytes) (kk : KeyC) (frm til : Int) (H : Hp) (w : World) (hs : Sat H w) (hg : s.Good H) (hz : zone.length ≤ 60) (hk : Enc.good H kk) (hf : I64 frm) (ht : I64 til) : Calls Tryz.prog 81 #[s.v, strV zone, .agg (enc kk).toArray, intV frm, intV til] w (Ret w (.int .u64 (digest firstDigest (s.els ++ textB zone ++ num8 kk.n ++ num8 kk.alg ++ num8 frm ++ num8 til)))) := by
  refine T.enter (vs := [s.v, strV zone, .agg (enc kk).toArray, intV frm, intV til]) (H := H) Tryz.func81 rfl rfl rfl hs ?_
  obtain ⟨d0, hd0⟩ : ∃ d0 : Int, d0 = 14695981039346656037 := ⟨_, rfl⟩
  repeat (any_goals (first | (apply T.seqU 4; rfl) | refine T.region ?_ | refine TL.nil ?_ | refine N.next ?_ | refine N.inBlock ?_ | refine N.exit_same ?_ | refine N.exit_then ?_ | refine N.ret_then ?_ | refine N.ret_block ?_ | (apply N.exit_other; rfl) | refine T.ret ?_ | refine T.skip ?_ | refine T.exit ?_ | refine T.block ?_ | (apply T.cond_true; rfl) | (apply T.cond_false; rfl) | (apply T.test; rfl; (exact isx); intro _; rotate_left; intro _; rotate_right) | (apply TL.skip; rfl; rfl; rfl) | (apply TL.skip_none; rfl; rfl) | (apply TL.x; rfl; rfl; (apply X.storeTo 0 [.int .u64 d0]; (iterate 8 rfl); (rw [hd0]; rfl); rfl); intro _ _) | (apply TL.val; rfl; rfl; ((apply V.makeFunc (vs := []) (us := [_]) <;> rfl))) | (apply TL.val; rfl; rfl; (first | exact vpure | exact vread)) | (apply TL.x; rfl; rfl; (first | exact xgrow | exact xput); intro _ _) | (apply TL.guard; rfl; rfl; rfl; (exact isx); intro _; rotate_left; intro _; rotate_right)))
  rename_i bk _ bd _ _ _
  have hr0 : 0 ≤ d0 ∧ d0 < 18446744073709551616 := by rw [hd0]; decide
  repeat (any_goals (first | (apply T.seqU 5; rfl) | refine T.region ?_ | refine TL.nil ?_ | refine N.next ?_ | refine N.inBlock ?_ | refine N.exit_same ?_ | refine N.exit_then ?_ | refine N.ret_then ?_ | refine N.ret_block ?_ | (apply N.exit_other; rfl) | refine T.ret ?_ | refine T.skip ?_ | refine T.exit ?_ | refine T.block ?_ | (apply T.cond_true; rfl) | (apply T.cond_false; rfl) | (apply T.test; rfl; (exact isx); intro _; rotate_left; intro _; rotate_right) | (apply TL.skip; rfl; rfl; rfl) | (apply TL.skip_none; rfl; rfl) | (apply TL.x; rfl; rfl; (apply X.callS0 Tryz.call120; rfl; rfl; exact fun _ hs => c_addG d0 s bd _ hs hg hr0); intro d1 hd1) | (apply TL.val; rfl; rfl; (first | exact vpure | exact vread)) | (apply TL.x; rfl; rfl; (first | exact xgrow | exact xput); intro _ _) | (apply TL.guard; rfl; rfl; rfl; (exact isx); intro _; rotate_left; intro _; rotate_right)))
  repeat (any_goals (first | (apply T.seqU 6; rfl) | refine T.region ?_ | refine TL.nil ?_ | refine N.next ?_ | refine N.inBlock ?_ | refine N.exit_same ?_ | refine N.exit_then ?_ | refine N.ret_then ?_ | refine N.ret_block ?_ | (apply N.exit_other; rfl) | refine T.ret ?_ | refine T.skip ?_ | refine T.exit ?_ | refine T.block ?_ | (apply T.cond_true; rfl) | (apply T.cond_false; rfl) | (apply T.test; rfl; (exact isx); intro _; rotate_left; intro _; rotate_right) | (apply TL.skip; rfl; rfl; rfl) | (apply TL.skip_none; rfl; rfl) | (apply TL.val; rfl; rfl; (apply V.convW (r := .u8); (iterate 4 rfl); exact byte_wrap _ zone.length rfl (Int.natCast_nonneg _))) | (apply TL.x; rfl; rfl; (apply X.buildSlice1; (iterate 8 rfl)); intro b3 _; apply TL.frzBlk 0 (els := [byteOf zone.length]) (m := 1) rfl rfl rfl (by decide) (by intro _ _; trivial); intro H2 hn2 hle2) | (apply TL.x; rfl; rfl; (apply X.callS0 Tryz.call120; rfl; rfl; exact fun _ hs => c_addG d1 ⟨some ⟨b3, 0, none⟩, 1, 1, [byteOf zone.length]⟩ bd _ hs hn2 hd1.2); intro d2 hd2) | (apply TL.val; rfl; rfl; (first | exact vpure | exact vread)) | (apply TL.x; rfl; rfl; (first | exact xgrow | exact xput); intro _ _) | (apply TL.guard; rfl; rfl; rfl; (exact isx); intro _; rotate_left; intro _; rotate_right)))
  repeat (any_goals (first | (apply T.seqU 7; rfl) | refine T.region ?_ | refine TL.nil ?_ | refine N.next ?_ | refine N.inBlock ?_ | refine N.exit_same ?_ | refine N.exit_then ?_ | refine N.ret_then ?_ | refine N.ret_block ?_ | (apply N.exit_other; rfl) | refine T.ret ?_ | refine T.skip ?_ | refine T.exit ?_ | refine T.block ?_ | (apply T.cond_true; rfl) | (apply T.cond_false; rfl) | (apply T.test; rfl; (exact isx); intro _; rotate_left; intro _; rotate_right) | (apply TL.skip; rfl; rfl; rfl) | (apply TL.skip_none; rfl; rfl) | (apply TL.x; rfl; rfl; (apply X.strBytes; (iterate 8 rfl); omega); rintro ⟨H3, s3⟩ ⟨hg3, he3, hle3⟩) | (apply TL.x; rfl; rfl; (apply X.callS0 Tryz.call120; rfl; rfl; exact fun _ hs => c_addG d2 s3 bd _ hs hg3 hd2.2); intro d3 hd3) | (apply TL.val; rfl; rfl; (first | exact vpure | exact vread)) | (apply TL.x; rfl; rfl; (first | exact xgrow | exact xput); intro _ _) | (apply TL.guard; rfl; rfl; rfl; (exact isx); intro _; rotate_left; intro _; rotate_right)))
  repeat (any_goals (first | refine T.seq ?_ | refine T.region ?_ | refine TL.nil ?_ | refine N.next ?_ | refine N.inBlock ?_ | refine N.exit_same ?_ | refine N.exit_then ?_ | refine N.ret_then ?_ | refine N.ret_block ?_ | (apply N.exit_other; rfl) | refine T.ret ?_ | refine T.skip ?_ | refine T.exit ?_ | refine T.block ?_ | (apply T.cond_true; rfl) | (apply T.cond_false; rfl) | (apply T.test; rfl; (exact isx); intro _; rotate_left; intro _; rotate_right) | (apply TL.skip; rfl; rfl; rfl) | (apply TL.skip_none; rfl; rfl) | (apply TL.x; rfl; rfl; (apply X.buildOnes; (iterate 9 rfl)); intro b4 _; apply TL.frzBlk 0 (els := [kk.n, kk.alg, frm, til]) (m := 4) rfl rfl rfl (by decide) (by intro x hx; simp at hx; rcases hx with rfl | rfl | rfl | rfl; exact hk.1; exact hk.2; exact hf; exact ht); intro H4 hn4 hle4) | (apply TL.x; rfl; rfl; (apply X.callS; rfl; rfl; rfl; exact Tryz.call119; exact fun _ hs => c_sum1G d3 ⟨some ⟨b4, 0, none⟩, 4, 4, [kk.n, kk.alg, frm, til]⟩ bd _ hs hn4 hd3.2); intro d4 hd4) | (apply TL.val; rfl; rfl; (first | exact vpure | exact vread)) | (apply TL.x; rfl; rfl; (first | exact xgrow | exact xput); intro _ _) | (apply TL.guard; rfl; rfl; rfl; (exact isx); intro _; rotate_left; intro _; rotate_right)))
  refine N.ret_val (by rfl) (by (exact rvx)) ?_
  rw [hd4.1, hd3.1, hd2.1, hd1.1, hd0, he3]
  show Value.int .u64 (digest (digest (digest (digest firstDigest s.els) [byteOf zone.length]) zone) (num8 kk.n ++ (num8 kk.alg ++ (num8 frm ++ (num8 til ++ []))))) = _
  simp only [← digest_app]
  simp [textB]
theorem c_sumS (s : Slc UInt8) (sc : SetC) (zone : Bytes) (kk : KeyC) (frm til : Int) (H : Hp) (w : World) (hs : Sat H w) (hg : s.Good H) (he : s.els = setB sc) (hz : zone.length ≤ 60) (hk : Enc.good H kk) (hf : I64 frm) (ht : I64 til) : Calls Tryz.prog 81 #[s.v, strV zone, .agg (enc kk).toArray, intV frm, intV til] w (Ret w (.int .u64 (sumC sc zone kk frm til))) := by
  have h := c_sum s zone kk frm til H w hs hg hz hk hf ht
  rw [he] at h
  exact h
end
end Go.Proofs.YtpnoabbdcakjkaaGreatDoor
namespace Go.Proofs.YtpnoabbdcakjkaaGreatDoor
set_option linter.unusedVariables false
set_option linter.unusedSimpArgs false
open Go Go.RowKit
open Enc (enc)
set_option maxRecDepth 20000

theorem c_UnderV {l p : Bytes} {H : Hp} {w : World} (h1 : nameOK l = true) (h2 : nameOK p = true) (hs : Sat H w) : Calls Tryz.prog 69 #[strV l, strV p] w (Ret w (.tuple #[.bool (inN l p), intV 0])) := by
  have h := c_Under l p H w hs (by have := nameOK_le h1; show _ ≤ _; omega) (by have := nameOK_le h2; show _ ≤ _; omega)
  unfold underC at h
  rw [if_pos ⟨h1, h2⟩, under_in h2] at h
  exact h
theorem c_validKey (kk : KeyC) (H : Hp) (w : World) (hs : Sat H w) : Calls Tryz.prog 78 #[.agg (enc kk).toArray] w (Ret w (.bool (sKeyOK kk))) := by
  refine T.enter (vs := [.agg (enc kk).toArray]) (H := H) Tryz.func78 rfl rfl rfl hs ?_
  repeat (any_goals (first | refine T.seq ?_ | refine T.region ?_ | refine TL.nil ?_ | refine N.next ?_ | refine N.inBlock ?_ | refine N.exit_same ?_ | refine N.exit_then ?_ | refine N.ret_then ?_ | refine N.ret_block ?_ | (apply N.exit_other; rfl) | refine T.ret ?_ | refine T.skip ?_ | refine T.exit ?_ | refine T.block ?_ | (apply T.cond_true; rfl) | (apply T.cond_false; rfl) | (apply T.test; rfl; (exact isx); intro _; rotate_left; intro _; rotate_right) | (apply TL.skip; rfl; rfl; rfl) | (apply TL.skip_none; rfl; rfl) | (apply TL.val; rfl; rfl; (first | exact vpure | exact vread)) | (apply TL.x; rfl; rfl; (first | exact xgrow | exact xput); intro _ _) | (apply TL.guard; rfl; rfl; rfl; (exact isx); intro _; rotate_left; intro _; rotate_right)))
  all_goals (try (first | (apply N.ret_bool; rfl; (exact rvx)) | (apply N.ret_int; rfl; (exact rvx)) | (apply N.ret_val; rfl; (exact rvx))))
  all_goals (unfold sKeyOK; rw [Bool.eq_iff_iff]; simp only [Bool.and_eq_true, decide_eq_true_eq, Bool.false_eq_true, true_iff, false_iff, iff_true, iff_false]; omega)
theorem c_validWindow (a b : Int) (H : Hp) (w : World) (hs : Sat H w) : Calls Tryz.prog 79 #[intV a, intV b] w (Ret w (.bool (windowOK a b))) := by
  refine T.enter (vs := [intV a, intV b]) (H := H) Tryz.func79 rfl rfl rfl hs ?_
  repeat (any_goals (first | refine T.seq ?_ | refine T.region ?_ | refine TL.nil ?_ | refine N.next ?_ | refine N.inBlock ?_ | refine N.exit_same ?_ | refine N.exit_then ?_ | refine N.ret_then ?_ | refine N.ret_block ?_ | (apply N.exit_other; rfl) | refine T.ret ?_ | refine T.skip ?_ | refine T.exit ?_ | refine T.block ?_ | (apply T.cond_true; rfl) | (apply T.cond_false; rfl) | (apply T.test; rfl; (exact isx); intro _; rotate_left; intro _; rotate_right) | (apply TL.skip; rfl; rfl; rfl) | (apply TL.skip_none; rfl; rfl) | (apply TL.val; rfl; rfl; (first | exact vpure | exact vread)) | (apply TL.x; rfl; rfl; (first | exact xgrow | exact xput); intro _ _) | (apply TL.guard; rfl; rfl; rfl; (exact isx); intro _; rotate_left; intro _; rotate_right)))
  all_goals (try (first | (apply N.ret_bool; rfl; (exact rvx)) | (apply N.ret_int; rfl; (exact rvx)) | (apply N.ret_val; rfl; (exact rvx))))
  all_goals (unfold windowOK; rw [Bool.eq_iff_iff]; simp only [Bool.and_eq_true, decide_eq_true_eq, Bool.false_eq_true, true_iff, false_iff, iff_true, iff_false]; omega)
end Go.Proofs.YtpnoabbdcakjkaaGreatDoor
