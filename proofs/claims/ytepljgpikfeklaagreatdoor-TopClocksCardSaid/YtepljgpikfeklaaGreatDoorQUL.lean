import Derived.Test.YtepljgpikfeklaaGreatDoorQUK
import Derived.Test.YtepljgpikfeklaaGreatDoorQVI
import Derived.Test.YtepljgpikfeklaaGreatDoorQZA
namespace Go.Proofs.YtepljgpikfeklaaGreatDoor
set_option linter.unusedVariables false
set_option linter.unusedSimpArgs false
open Go Go.RowKit
open Enc (enc)
set_option maxRecDepth 20000
set_option maxHeartbeats 1000000 in
theorem c_WithinNo (c : ClockV) (d e : Int) (hc : clockOK c = false) {H : Hp} {w : World} (hs : Sat H w) : Calls Tryz.prog 7 #[.agg (enc c).toArray, intV d, intV e] w (Ret w (.tuple #[.bool false, intV 1])) := by
  refine T.enter (vs := [.agg (enc c).toArray, intV d, intV e]) (H := H) Tryz.func7 rfl rfl rfl hs ?_
  repeat (any_goals (first | refine T.seq ?_ | refine T.region ?_ | refine TL.nil ?_ | refine N.next ?_ | refine N.ret_then ?_ | refine T.ret ?_ | (apply T.cond_true; rfl) | (apply TL.skip; rfl; rfl; rfl) | (apply TL.x; rfl; rfl; (apply X.box (d := 3); rfl; rfl; rfl); intro b3 _; apply TL.frzZ 0; rfl; intro H1 z3 hle1) | (apply TL.x; rfl; rfl; (apply X.box (d := 4); rfl; rfl; rfl); intro b4 _; apply TL.frzZ 0; rfl; intro H2 z4 hle2; have z3 := Hp.cells_le hle2 z3) | (apply TL.val; rfl; rfl; (apply V.load_H_row; rfl; rfl; rfl; exact z3; rfl)) | (apply TL.callE (f := 21) [.agg (enc c).toArray] Tryz.call21; (iterate 4 rfl); (exact fun _ hs => hc ▸ c_clockValid c hs.sat)) | (apply TL.val; rfl; rfl; (first | exact vpure | exact vread))))
  all_goals (try contradiction)
  all_goals (try (exfalso; omega))
  exact N.ret_two rfl (by (exact rvx)) (by (exact rvx)) rfl
structure AskT (h : HistV) (u t : Int) : Prop where
  few : FewH h
  ok : HistOK h
  some : h.copies.len ≠ 0
  from0 : 0 ≤ u
  order : u ≤ t
  near : t ≤ u + 2000
  last : t ≤ 19999990
theorem zoned_set {z : ZoneV} (hz : ZonedR z.c) {s : Signed} (hs : s ∈ z.sets.els) : setOK s.c.set = true ∧ inZone s.c.set.name z.apex = true ∧ sigsForm s.c.sigs z.apex = true := by
  have hm : s.c ∈ z.c.sets := List.mem_map.2 ⟨s, hs, rfl⟩
  obtain ⟨i, hi, he⟩ := List.mem_iff_getElem.1 hm
  have h1 := hz.one.each i hi
  have h2 := (hz.five i hi).1
  have h3 := hz.one.nameAt hi
  rw [he] at h1 h2 h3
  refine ⟨h1.1, ?_, h2⟩
  unfold inZone
  have h4 : nameOK z.apex = true := hz.one.apexOK
  have h5 : starN z.apex = false := hz.one.tame
  have h6 : inN s.c.set.name z.apex = true := h1.2.1
  rw [h3, h4, h5, h6]; rfl
set_option maxHeartbeats 16000000 in
theorem c_TopClocks (h : HistV) (c : ClockV) (copy set : Nat) (u t : Int) (hcopy : copy < 256) (hset : set < 256) (hu : I64 u) (ht : I64 t) {H : Hp} {w : World} (hs : Sat H w) (hR : Rules H) (hT : Pow10 H) (hgd : Enc.good H h) (hgc : Enc.good H c) : Calls Tryz.prog 3 #[.agg (enc h).toArray, .agg (enc c).toArray, .int .u8 copy, .int .u8 set, intV u, intV t] w (Ret w (.bool true)) := by
  refine T.enter (vs := [.agg (enc h).toArray, .agg (enc c).toArray, .int .u8 copy, .int .u8 set, intV u, intV t]) (H := H) Tryz.func3 rfl rfl rfl hs ?_
  obtain ⟨hu1, hu2⟩ := hu
  obtain ⟨ht1, ht2⟩ := ht
  have hcl := hgd.2.1.lim
  by_cases hbig : u + 2000 ≤ 9223372036854775807
  · repeat (any_goals (first | (apply T.seqU 5; rfl) | refine T.region ?_ | refine TL.nil ?_ | refine N.next ?_ | refine N.ret_then ?_ | refine T.ret ?_ | refine T.skip ?_ | (apply T.cond_true; rfl) | (apply T.test; rfl; (exact isx); intro _; rotate_left; intro _; rotate_right) | (apply TL.skip; rfl; rfl; rfl) | (apply TL.x; rfl; rfl; (apply X.box (d := 6); rfl; rfl; rfl); intro b6 _; apply TL.frzZ 0; rfl; intro H1 z6 hle1; have hgd := Enc.mono hle1 hgd; have hgc := Enc.mono hle1 hgc; have hR := Rules.mono hle1 hR; have hT := Pow10.mono hle1 hT) | (apply TL.x; rfl; rfl; (apply X.box (d := 7); rfl; rfl; rfl); intro b7 _; apply TL.frzZ 0; rfl; intro H2 z7 hle2; have hgd := Enc.mono hle2 hgd; have hgc := Enc.mono hle2 hgc; have hR := Rules.mono hle2 hR; have hT := Pow10.mono hle2 hT; have z6 := Hp.cells_le hle2 z6) | (apply TL.callE (f := 4) [] Tryz.call4; (iterate 4 rfl); (exact fun _ hs => c_r7Kept hs.sat hR hT)) | (apply TL.val; rfl; rfl; (apply V.load_H_row; rfl; rfl; rfl; exact z6; rfl)) | (apply TL.val; rfl; rfl; (apply V.load_H; rfl; rfl; rfl; first | exact z6 0 _ rfl | exact z6 1 _ rfl | exact z6 2 _ rfl | exact z6 3 _ rfl | exact z6 4 _ rfl | exact z6 5 _ rfl | exact z6 6 _ rfl | exact z6 7 _ rfl | exact z6 8 _ rfl)) | (apply TL.x; rfl; rfl; (apply X.callG (f := 5) [.agg (enc h).toArray] Tryz.call5; rfl; rfl; rfl; exact (fun _ hs => c_Few21 h hs.sat hgd)); intro v5 hv5) | (apply TL.x; rfl; rfl; (apply X.callG (f := 6) [.agg (enc h).toArray] Tryz.call6; rfl; rfl; rfl; exact (fun _ hs => c_Valid21 h hs.sat hgd)); intro v6 hv6) | (apply TL.val; rfl; rfl; (first | exact vpure | exact vread)) | (apply TL.guard; rfl; rfl; rfl; (exact isx); intro _; rotate_left; intro _; rotate_right)))
    all_goals (try contradiction)
    all_goals (try (exfalso; omega))
    all_goals (try (exact N.ret_bool rfl (by (exact rvx)) rfl))
    have hA : AskT h u t := ⟨hv5 ‹v5 = true›, hv6 ‹v6 = true›, by omega, by omega, by omega, by omega, by omega⟩
    clear hv5 hv6
    obtain ⟨hfew, hh, hsome, hu0, hut, hnear, hlast⟩ := hA
    have hcg : h.copies.Good H2 := hgd.2.1
    have hlen := hcg.len
    obtain ⟨ci, hci⟩ : ∃ ci, copy % h.copies.len = ci := ⟨_, rfl⟩
    have hcil : ci < h.copies.len := by rw [← hci]; exact Nat.mod_lt _ (by omega)
    have hrem : (copy : Int).tmod (h.copies.len : Int) = (ci : Int) := by rw [← hci]; exact Int.ofNat_tmod ..
    obtain ⟨k, hk⟩ : ∃ k, h.copies.els[ci]'(by omega) = k := ⟨_, rfl⟩
    have hkm : k ∈ h.copies.els := hk ▸ List.getElem_mem _
    have hkrow : H2.cells h.copies.b (h.copies.o + ci * 5) (enc k) := by rw [← hk]; exact hcg.row hcil
    have hkg := hcg.els k hkm
    repeat (any_goals (first | (apply T.regionDS (id := 4) [] wide; rfl; (repeat (first | exact List.Sublist.refl _ | exact List.nil_sublist _ | apply List.Sublist.cons_cons | apply List.Sublist.cons))) | (apply T.seqU 8; rfl) | refine T.region ?_ | refine TL.nil ?_ | refine N.next ?_ | refine N.ret_then ?_ | refine T.ret ?_ | refine T.skip ?_ | (apply T.cond_true; rfl) | (apply T.test; rfl; (exact isx); intro _; rotate_left; intro _; rotate_right) | (apply TL.skip; rfl; rfl; rfl) | (apply GT.read; (iterate 4 rfl); (apply V.load_H; rfl; rfl; rfl; exact z6 1 _ rfl); decide +kernel) | (apply GT.pure; (iterate 4 rfl); (apply V.conv; (iterate 4 rfl); exact IntWalk.i64_in _ (by omega)); decide +kernel) | (apply GT.pure; (iterate 4 rfl); (apply V.remG (m := (ci : Int)); rfl; rfl; exact hrem; exact wrap_i64 (by constructor <;> omega); omega); decide +kernel) | (apply GT.pure; (iterate 4 rfl); (apply V.elem (j := ci); (iterate 6 rfl); omega; exact hcg.at_ (by omega)); decide +kernel) | (apply GT.read; (iterate 4 rfl); (apply V.load_H_row; rfl; rfl; rfl; exact hkrow; rfl); decide +kernel) | (apply GS.grow; rfl; rfl; (apply X.alloc (d := 14); rfl; rfl; rfl); intro b14 _) | (apply GS.eff; rfl; decide +kernel; rfl; (apply X.storeTo 0 (enc k); (iterate 10 rfl)); intro _ _) | (apply TL.val; rfl; rfl; (first | exact vpure | exact vread)) | (apply GT.pure; (iterate 4 rfl); (first | exact vpure); decide +kernel) | (apply GT.done; decide +kernel; apply N.ofQ) | (apply GT.adv; rfl) | (apply TL.guard; rfl; rfl; rfl; (exact isx); intro _; rotate_left; intro _; rotate_right) | (apply GT.fork1; decide +kernel)))
    all_goals (try contradiction)
    all_goals (try (exfalso; omega))
    all_goals (try (exact N.ret_bool rfl (by (exact rvx)) rfl))
    have hdr := hh.drift
    have hfin := hh.fin
    have hkall : k.zone.sets.len ≠ 0 ∧ k.frm ≤ u ∧ u < k.til := ⟨by omega, by omega, by omega⟩
    obtain ⟨hks, hku, hkt⟩ := hkall
    have hcopyOK : CopyOK h.hosts.els.length h.fin k := by rw [← hk]; exact (hh.each ci (by omega) (by omega)).1
    have hktil := hcopyOK.fin
    have hzone := hcopyOK.zone
    have hsg : k.zone.sets.Good H2 := hkg.2.2.2.2
    have hslen := hsg.len
    have hslim := hsg.lim
    simp only [List.set_cons_zero, List.eraseIdx_cons_zero]
    cases hclk : clockOK c with
    | false =>
      repeat (any_goals (first | refine T.seq ?_ | refine T.region ?_ | refine TL.nil ?_ | refine N.next ?_ | refine N.ret_then ?_ | refine T.ret ?_ | (apply T.cond_true; rfl) | (apply TL.skip; rfl; rfl; rfl) | (apply TL.val; rfl; rfl; (apply V.load_H_row; rfl; rfl; rfl; exact z7; rfl)) | (apply TL.val; rfl; rfl; (apply V.load_H; rfl; rfl; rfl; first | exact z6 0 _ rfl | exact z6 1 _ rfl | exact z6 2 _ rfl | exact z6 3 _ rfl | exact z6 4 _ rfl | exact z6 5 _ rfl | exact z6 6 _ rfl | exact z6 7 _ rfl | exact z6 8 _ rfl)) | (apply TL.callE (f := 7) [.agg (enc c).toArray, intV h.drift, intV (t + 1)] Tryz.call7; (iterate 4 rfl); (exact fun _ hs => c_WithinNo c h.drift (t + 1) hclk hs.sat)) | (apply TL.val; rfl; rfl; (first | exact vpure | exact vread))))
      all_goals (try contradiction)
      all_goals (try (exfalso; omega))
      all_goals (exact N.ret_bool rfl (by (exact rvx)) rfl)
    | true =>
      cases hwi : withinC c h.drift (t + 1) with
      | false =>
        repeat (any_goals (first | refine T.seq ?_ | refine T.region ?_ | refine TL.nil ?_ | refine N.next ?_ | refine N.ret_then ?_ | refine T.ret ?_ | (apply T.cond_true; rfl) | (apply TL.val; rfl; rfl; (apply V.load_H_row; rfl; rfl; rfl; exact z7; rfl)) | (apply TL.val; rfl; rfl; (apply V.load_H; rfl; rfl; rfl; first | exact z6 0 _ rfl | exact z6 1 _ rfl | exact z6 2 _ rfl | exact z6 3 _ rfl | exact z6 4 _ rfl | exact z6 5 _ rfl | exact z6 6 _ rfl | exact z6 7 _ rfl | exact z6 8 _ rfl)) | (apply TL.callE (f := 7) [.agg (enc c).toArray, intV h.drift, intV (t + 1)] Tryz.call7; (iterate 4 rfl); (exact fun _ hs => hwi ▸ c_Within c h.drift (t + 1) hclk hdr (by omega) (by omega) hs.sat)) | (apply TL.val; rfl; rfl; (first | exact vpure | exact vread))))
        all_goals (try contradiction)
        all_goals (try (exfalso; omega))
        all_goals (exact N.ret_bool rfl (by (exact rvx)) rfl)
      | true =>
        obtain ⟨he1, he2⟩ := err_mid hclk hu0 hut hwi
        have hb1 := shows_bound hclk hu0 (by omega : u ≤ 20000000)
        have hb2 := shows_bound hclk (by omega : 0 ≤ t) (by omega : t ≤ 20000000)
        obtain ⟨n, hsu⟩ : ∃ n, shows c u = n := ⟨_, rfl⟩
        obtain ⟨m, hst⟩ : ∃ m, shows c t = m := ⟨_, rfl⟩
        rw [hsu] at he1 hb1
        rw [hst] at he2 hb2
        have hn64 : I64 n := by unfold I64; omega
        have hm64 : I64 m := by unfold I64; omega
        obtain ⟨si, hsi⟩ : ∃ si, set % k.zone.sets.len = si := ⟨_, rfl⟩
        have hsil : si < k.zone.sets.len := by rw [← hsi]; exact Nat.mod_lt _ (by omega)
        have hrem2 : (set : Int).tmod (k.zone.sets.len : Int) = (si : Int) := by rw [← hsi]; exact Int.ofNat_tmod ..
        obtain ⟨s, hs0⟩ : ∃ s, k.zone.sets.els[si]'(by omega) = s := ⟨_, rfl⟩
        have hsm : s ∈ k.zone.sets.els := hs0 ▸ List.getElem_mem _
        have hsrow : H2.cells k.zone.sets.b (k.zone.sets.o + si * 5) (enc s) := by rw [← hs0]; exact hsg.row hsil
        have hsgd := hsg.els s hsm
        obtain ⟨hset1, hin1, hform1⟩ := zoned_set hzone hsm
        obtain ⟨r, i, hput⟩ : ∃ r i, putC [] s.c k.zone.apex n = (r, i) := ⟨_, _, rfl⟩
        obtain ⟨kr, j, hkn⟩ : ∃ kr j, knownC r m = (kr, j) := ⟨_, _, rfl⟩
        have hperr : i = 0 ∨ n < 0 := by
          have := put_err (n := n) hset1 hin1 hform1 (by omega)
          rwa [hput] at this
        have hknew : kr ≠ [] → m < untilC s.c n := fun hne => known_put (z := k.zone.apex) (by rw [hput, hkn]; exact hne)
        have hvalid : ∀ c ∈ h.copies.els, ∀ s ∈ c.zone.sets.els, ValidS s.c := fun c hc s hs => by
          obtain ⟨q, hq, rfl⟩ := List.mem_iff_getElem.1 hc
          exact zoned_valid (hh.each q hq hq).1.zone (hcg.els _ hc).2.2.2 hs
        have hqs : questionOK ⟨s.set.name, s.set.typ⟩ = true := by
          unfold setOK at hset1
          simp only [Bool.and_eq_true, decide_eq_true_eq] at hset1
          unfold questionOK
          rw [Bool.and_eq_true, decide_eq_true_iff]
          exact ⟨hset1.1.1.1.1.1.1.1, hset1.1.1.1.1.1.1.2⟩
        repeat (any_goals (first | (apply T.regionDS (id := 10) [.blk b14 38 (enc k)] wide; rfl; (repeat (first | exact List.Sublist.refl _ | exact List.nil_sublist _ | apply List.Sublist.cons_cons | apply List.Sublist.cons))) | (apply T.seqU 20; rfl) | refine T.region ?_ | refine TL.nil ?_ | refine N.next ?_ | refine N.ret_then ?_ | refine T.ret ?_ | refine T.skip ?_ | (apply T.cond_true; rfl) | (apply T.cond_false; rfl) | (apply T.test; rfl; (exact isx); intro _; rotate_left; intro _; rotate_right) | (apply TL.skip; rfl; rfl; rfl) | (apply GT.pure; (iterate 4 rfl); (apply V.conv; (iterate 4 rfl); exact IntWalk.i64_in _ (by omega)); decide +kernel) | (apply GT.pure; (iterate 4 rfl); (apply V.remG (m := (si : Int)); rfl; rfl; exact hrem2; exact wrap_i64 (by constructor <;> omega); omega); decide +kernel) | (apply GT.pure; (iterate 4 rfl); (apply V.elem (j := si); (iterate 6 rfl); omega; exact hsg.at_ (by omega)); decide +kernel) | (apply GT.read; (iterate 4 rfl); (apply V.load_H_row; rfl; rfl; rfl; exact hsrow; rfl); decide +kernel) | (apply GS.grow; rfl; rfl; (apply X.alloc (d := 17); rfl; rfl; rfl); intro b17 _) | (apply GS.eff; rfl; decide +kernel; rfl; (apply X.storeTo 0 (enc s); (iterate 10 rfl)); intro _ _) | (apply TL.val; rfl; rfl; (apply V.load_H_row; rfl; rfl; rfl; exact z7; rfl)) | (apply TL.val; rfl; rfl; (apply V.load_H; rfl; rfl; rfl; first | exact z6 0 _ rfl | exact z6 1 _ rfl | exact z6 2 _ rfl | exact z6 3 _ rfl | exact z6 4 _ rfl | exact z6 5 _ rfl | exact z6 6 _ rfl | exact z6 7 _ rfl | exact z6 8 _ rfl)) | (apply TL.callE (f := 7) [.agg (enc c).toArray, intV h.drift, intV (t + 1)] Tryz.call7; (iterate 4 rfl); (exact fun _ hs => hwi ▸ c_Within c h.drift (t + 1) hclk hdr (by omega) (by omega) hs.sat)) | (apply TL.x; rfl; rfl; (apply X.callRE (f := 8) [.agg (enc c).toArray, intV u] Tryz.call8; rfl; rfl; rfl; exact (fun _ hs => hsu ▸ c_Show c u hclk hu0 (by omega) hs.sat)); intro _ _) | (apply TL.x; rfl; rfl; (apply X.callRE (f := 8) [.agg (enc c).toArray, intV t] Tryz.call8; rfl; rfl; rfl; exact (fun _ hs => hst ▸ c_Show c t hclk (by omega) (by omega) hs.sat)); intro _ _) | (apply TL.val; rfl; rfl; (apply V.build; (iterate 6 rfl))) | (apply TL.x; rfl; rfl; (apply X.callFE (f := 9) [.agg (enc (⟨Slc.nil _⟩ : Cache)).toArray, .agg (enc s).toArray, strV k.zone.apex, intV n] Tryz.call9; rfl; rfl; rfl; exact (fun _ hs => c_PutL ⟨Slc.nil _⟩ s k.zone.apex n (r := r) (e := i) (k := r.length) hput rfl hs.sat hR Slc.nil_good hsgd hkg.2.2.2.1 hn64)); rintro ⟨Hx, x⟩ ⟨⟨xc, xg, xl⟩, xle⟩; have hR := Rules.mono xle hR; have hT := Pow10.mono xle hT; have hgd := Enc.mono xle hgd; have z6 := Hp.cells_le xle z6; have hsgd := Enc.mono xle hsgd) | (apply TL.x; rfl; rfl; (apply X.alloc (d := 22); rfl; rfl; rfl); intro b22 _) | (apply TL.x; rfl; rfl; (apply X.storeTo 0 (enc x); (iterate 10 rfl)); intro _ _) | (apply TL.x; rfl; rfl; (apply X.callFE (f := 10) [.agg (enc x).toArray, intV m] Tryz.call10; rfl; rfl; rfl; exact (fun _ hs => c_KnownL x m (r := kr) (e := j) (by rw [xc]; exact hkn) hs.sat hR xg hm64)); rintro ⟨Hn, kn⟩ ⟨⟨nc, ng⟩, nle⟩; have hR := Rules.mono nle hR; have hT := Pow10.mono nle hT; have hgd := Enc.mono nle hgd; have z6 := Hp.cells_le nle z6; have hsgd := Enc.mono nle hsgd; have knl : kn.els.length = kn.len := ng.len) | (apply TL.val; rfl; rfl; (first | exact vpure | exact vread)) | (apply GT.pure; (iterate 4 rfl); (first | exact vpure); decide +kernel) | (apply GT.read; (iterate 4 rfl); (first | exact vpure | exact vread); decide +kernel) | (apply GT.done; decide +kernel; apply N.ofQ) | (apply GT.adv; rfl) | (apply TL.guard; rfl; rfl; rfl; (exact isx); intro _; rotate_left; intro _; rotate_right) | (apply GT.fork1; decide +kernel)))
        all_goals (try contradiction)
        all_goals (try (exfalso; omega))
        all_goals (try (exact N.ret_bool rfl (by (exact rvx)) rfl))
        rename_i hi0 hj0 hknz
        have hkn0 : kn.len ≠ 0 := fun e => hknz (show ((kn.len : Nat) : Int) = 0 by rw [e]; rfl)
        have nc' : kn.els.map Signed.c = kr := nc
        have hmn : m < untilC s.c n := hknew fun e => by
          rw [e] at nc'
          have := congrArg List.length nc'
          rw [List.length_map, List.length_nil] at this
          omega
        simp only [List.set_cons_zero, List.set_cons_succ]
        repeat (any_goals (first | refine T.seq ?_ | refine T.region ?_ | refine TL.nil ?_ | refine N.next ?_ | refine T.skip ?_ | refine T.block ?_ | (apply T.cond_false; rfl) | (apply TL.val; rfl; rfl; (apply V.load_H_row; rfl; rfl; rfl; exact z6; rfl)) | (apply TL.val; rfl; rfl; (apply V.build; (iterate 6 rfl))) | (apply TL.x; rfl; rfl; (apply X.callFE (f := 11) [.agg (enc h).toArray, .agg (enc (⟨s.set.name, s.set.typ⟩ : Question)).toArray, intV t] Tryz.call11; rfl; rfl; rfl; exact (fun _ hs => c_Possible h ⟨s.set.name, s.set.typ⟩ t hh hfew hqs (by omega) hs.sat hR hT hgd ⟨hsgd.1.1, hsgd.1.2.1⟩)); rintro ⟨Hq, l⟩ ⟨⟨⟨all, a1, o1⟩, lg⟩, lle⟩; have hsgd := Enc.mono lle hsgd) | (apply TL.val; rfl; rfl; (first | exact vpure | exact vread))))
        all_goals (try contradiction)
        all_goals (try (exfalso; omega))
        obtain ⟨y0, hy0, hys⟩ := clocks_found a1 hvalid hkm hsm hku hkt hut hmn he1 he2 o1
        have hll : l.els.length = l.len := lg.len
        have hlm : l.len ≤ 9223372036854775807 := lg.lim
        have lg' : l.Good Hq := lg
        refine T.loop (G := Nat) (fun e => [(13, .bool true), (17, .pointer (some ⟨b17, 0, none⟩)), (194, l.v), (195, intV l.len), (196, intV e)]) (fun _ => Hq) (fun _ => [.blk b17 44 (enc s)]) (fun e => e ≤ l.len ∧ ∀ y ∈ l.els.take e, y.c ≠ s.c) (fun e => l.len - e) 0 ⟨Nat.zero_le _, fun y hy => (by cases hy)⟩ (by (repeat (first | exact True.intro | refine ⟨rfl, ?_⟩ | refine Sub.int rfl (by omega) ?_))) rfl (by (repeat (first | exact List.Sublist.refl _ | exact List.nil_sublist _ | apply List.Sublist.cons_cons | apply List.Sublist.cons))) ?_
        rintro e ⟨he, hall⟩
        by_cases hlt : e < l.len
        · have hel : e < l.els.length := by omega
          have hrow := lg'.row (k := e) hlt
          obtain ⟨y, hy⟩ : ∃ y, l.els[e]'hel = y := ⟨_, rfl⟩
          have hyg : Enc.good Hq y := hy ▸ lg'.els _ (List.getElem_mem hel)
          rw [hy] at hrow
          have hup : l.els.take (e + 1) = l.els.take e ++ [y] := by rw [List.take_succ_eq_append_getElem hel, hy]
          have hsg2 : Enc.good Hq s := hsgd
          cases hsame : decide (y.c = s.c) with
          | true =>
            repeat (any_goals (first | refine T.seq ?_ | refine T.region ?_ | refine TL.nil ?_ | refine N.next ?_ | refine N.exit_same ?_ | refine N.exit_then ?_ | refine N.ret_then ?_ | refine N.ret_block ?_ | refine T.ret ?_ | refine T.skip ?_ | refine T.exit ?_ | refine T.block ?_ | (apply T.cond_true; rfl) | (apply T.test; rfl; (exact isx); intro _; rotate_left; intro _; rotate_right) | (apply TL.val; rfl; rfl; (apply V.elem (j := e); (iterate 6 rfl); omega; exact lg'.at_ (by omega))) | (apply TL.val; rfl; rfl; (apply V.load_H_row; rfl; rfl; rfl; exact hrow; rfl)) | (apply TL.x; rfl; rfl; (apply X.alloc (d := 29); rfl; rfl; rfl); intro b29 _) | (apply TL.x; rfl; rfl; (apply X.storeTo 0 (enc y); (iterate 10 rfl)); intro _ _) | (apply TL.callE (f := 12) [.agg (enc y).toArray, .agg (enc s).toArray] Tryz.call12; (iterate 4 rfl); (exact fun _ hs => hsame ▸ c_SameSigned y s _ _ hs.sat hyg hsg2)) | (apply TL.val; rfl; rfl; (first | exact vpure | exact vread))))
            all_goals (try contradiction)
            all_goals (try (exfalso; omega))
            exact N.ret_bool rfl (by (exact rvx)) rfl
          | false =>
            repeat (any_goals (first | refine T.seq ?_ | refine T.region ?_ | refine TL.nil ?_ | refine N.next ?_ | refine N.inBlock ?_ | refine N.exit_same ?_ | refine N.exit_then ?_ | refine T.ret ?_ | refine T.skip ?_ | refine T.exit ?_ | refine T.block ?_ | (apply T.cond_false; rfl) | (apply T.test; rfl; (exact isx); intro _; rotate_left; intro _; rotate_right) | (apply TL.val; rfl; rfl; (apply V.elem (j := e); (iterate 6 rfl); omega; exact lg'.at_ (by omega))) | (apply TL.val; rfl; rfl; (apply V.load_H_row; rfl; rfl; rfl; exact hrow; rfl)) | (apply TL.x; rfl; rfl; (apply X.alloc (d := 29); rfl; rfl; rfl); intro b29 _) | (apply TL.x; rfl; rfl; (apply X.storeTo 0 (enc y); (iterate 10 rfl)); intro _ _) | (apply TL.callE (f := 12) [.agg (enc y).toArray, .agg (enc s).toArray] Tryz.call12; (iterate 4 rfl); (exact fun _ hs => hsame ▸ c_SameSigned y s _ _ hs.sat hyg hsg2)) | (apply TL.val; rfl; rfl; (first | exact vpure | exact vread))))
            all_goals (try contradiction)
            all_goals (try (exfalso; omega))
            refine N.round (e + 1) ⟨by show e + 1 ≤ _; omega, fun z hz => ?_⟩ (by show l.len - (e + 1) < l.len - e; omega) (by (repeat (first | exact True.intro | refine ⟨rfl, ?_⟩ | refine Sub.int rfl (by omega) ?_))) rfl (by (first | exact List.Sublist.refl _ | exact List.nil_sublist _ | exact List.Sublist.cons _ (List.Sublist.refl _) | exact List.Sublist.cons _ (List.Sublist.cons _ (List.Sublist.refl _))))
            rw [hup] at hz
            rcases List.mem_append.1 hz with hz | hz
            · exact hall z hz
            · rw [List.mem_singleton.1 hz]; exact of_decide_eq_false hsame
        · exfalso
          have htk : l.els.take e = l.els := List.take_of_length_le (by omega)
          rw [htk] at hall
          exact hall y0 hy0 hys
  · have hwr : IntKind.i64.wrap (u + 2000) = u + 2000 - 18446744073709551616 := by
      unfold IntKind.wrap
      have h1 : (u + 2000) % (2 ^ IntKind.i64.bits : Int) = u + 2000 := Int.emod_eq_of_lt (by omega) (by show u + 2000 < 18446744073709551616; omega)
      simp only [h1]
      rw [if_pos]
      · rfl
      · show (true && decide (u + 2000 ≥ 9223372036854775808)) = true
        rw [Bool.true_and, decide_eq_true_iff]; omega
    repeat (any_goals (first | refine T.seq ?_ | refine T.region ?_ | (apply T.regionD wide; rfl) | refine TL.nil ?_ | refine N.next ?_ | refine N.ret_then ?_ | refine T.ret ?_ | refine T.skip ?_ | (apply T.cond_true; rfl) | (apply T.test; rfl; (exact isx); intro _; rotate_left; intro _; rotate_right) | (apply TL.skip; rfl; rfl; rfl) | (apply TL.x; rfl; rfl; (apply X.box (d := 6); rfl; rfl; rfl); intro b6 _; apply TL.frzZ 0; rfl; intro H1 z6 hle1; have hgd := Enc.mono hle1 hgd; have hgc := Enc.mono hle1 hgc; have hR := Rules.mono hle1 hR; have hT := Pow10.mono hle1 hT) | (apply TL.x; rfl; rfl; (apply X.box (d := 7); rfl; rfl; rfl); intro b7 _; apply TL.frzZ 0; rfl; intro H2 z7 hle2; have hgd := Enc.mono hle2 hgd; have hgc := Enc.mono hle2 hgc; have hR := Rules.mono hle2 hR; have hT := Pow10.mono hle2 hT; have z6 := Hp.cells_le hle2 z6) | (apply TL.callE (f := 4) [] Tryz.call4; (iterate 4 rfl); (exact fun _ hs => c_r7Kept hs.sat hR hT)) | (apply TL.val; rfl; rfl; (apply V.load_H_row; rfl; rfl; rfl; exact z6; rfl)) | (apply TL.val; rfl; rfl; (apply V.load_H; rfl; rfl; rfl; first | exact z6 0 _ rfl | exact z6 1 _ rfl | exact z6 2 _ rfl | exact z6 3 _ rfl | exact z6 4 _ rfl | exact z6 5 _ rfl | exact z6 6 _ rfl | exact z6 7 _ rfl | exact z6 8 _ rfl)) | (apply GT.read; (iterate 4 rfl); (apply V.load_H; rfl; rfl; rfl; first | exact z6 0 _ rfl | exact z6 1 _ rfl | exact z6 2 _ rfl | exact z6 3 _ rfl | exact z6 4 _ rfl | exact z6 5 _ rfl | exact z6 6 _ rfl | exact z6 7 _ rfl | exact z6 8 _ rfl); decide +kernel) | (apply TL.x; rfl; rfl; (apply X.callG (f := 5) [.agg (enc h).toArray] Tryz.call5; rfl; rfl; rfl; exact (fun _ hs => c_Few21 h hs.sat hgd)); intro v5 hv5) | (apply TL.x; rfl; rfl; (apply X.callG (f := 6) [.agg (enc h).toArray] Tryz.call6; rfl; rfl; rfl; exact (fun _ hs => c_Valid21 h hs.sat hgd)); intro v6 hv6) | (apply TL.val; rfl; rfl; (apply V.addWE (M := u + 2000 - 18446744073709551616) hwr; rfl; rfl)) | (apply TL.val; rfl; rfl; (first | exact vpure | exact vread)) | (apply GT.pure; (iterate 4 rfl); (first | exact vpure); decide +kernel) | (apply TL.guard; rfl; rfl; rfl; (exact isx); intro _; rotate_left; intro _; rotate_right)))
    all_goals (try contradiction)
    all_goals (try (exfalso; omega))
    all_goals (exact N.ret_bool rfl (by (exact rvx)) rfl)
end Go.Proofs.YtepljgpikfeklaaGreatDoor
