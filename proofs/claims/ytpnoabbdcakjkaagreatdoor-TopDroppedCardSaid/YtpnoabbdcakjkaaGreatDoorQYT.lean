/- Walks: lists of numbers. -/
import Derived.Test.YtpnoabbdcakjkaaGreatDoorQTac
import Derived.Test.YtpnoabbdcakjkaaGreatDoorQEngC
import Derived.Test.YtpnoabbdcakjkaaGreatDoorQDataF
import Derived.Test.YtpnoabbdcakjkaaGreatDoorQWL
import Derived.Test.YtpnoabbdcakjkaaGreatDoorQYP
namespace Go.Proofs.YtpnoabbdcakjkaaGreatDoor
set_option linter.unusedVariables false
set_option linter.unusedSimpArgs false
open Go Go.RowKit
set_option maxRecDepth 20000

theorem c_IndexInt (s : Slc Int) (x : Int) (H : Hp) (w : World) (hs : Sat H w) (hg : s.Good H) : Calls Tryz.prog 145 #[s.v, intV x] w (Ret w (intV (idxI (fun y => decide (x = y)) s.els))) := by
  have hlen : s.els.length = s.len := hg.len
  have hlim := hg.lim
  refine T.enter (vs := [s.v, intV x]) (H := H) Tryz.func145 rfl rfl rfl hs ?_
  repeat (any_goals (first | refine T.seq ?_ | refine T.region ?_ | refine TL.nil ?_ | refine N.next ?_ | refine N.inBlock ?_ | refine N.exit_same ?_ | refine N.exit_then ?_ | refine N.ret_then ?_ | refine N.ret_block ?_ | (apply N.exit_other; rfl) | refine T.ret ?_ | refine T.skip ?_ | refine T.exit ?_ | refine T.block ?_ | (apply T.cond_true; rfl) | (apply T.cond_false; rfl) | (apply T.test; rfl; (exact isx); intro _; rotate_left; intro _; rotate_right) | (apply TL.skip; rfl; rfl; rfl) | (apply TL.skip_none; rfl; rfl) | (apply TL.val; rfl; rfl; (first | exact vpure | exact vread)) | (apply TL.x; rfl; rfl; (first | exact xgrow | exact xput); intro _ _) | (apply TL.guard; rfl; rfl; rfl; (exact isx); intro _; rotate_left; intro _; rotate_right)))
  refine T.loop (G := Nat) (fun k => [(0, s.v), (1, intV x), (7, intV s.len), (8, intV k)]) (fun _ => H) (fun _ => []) (fun k => k ≤ s.len ∧ AllTo (fun y => !decide (x = y)) s.els k) (fun k => s.len - k) 0 ⟨Nat.zero_le _, allTo_zero⟩ (by (repeat (first | exact True.intro | refine ⟨rfl, ?_⟩ | refine Sub.int rfl (by omega) ?_))) rfl (by (first | exact List.Sublist.refl _ | exact List.nil_sublist _ | exact List.Sublist.cons _ (List.Sublist.refl _) | exact List.Sublist.cons _ (List.Sublist.cons _ (List.Sublist.refl _)))) ?_
  rintro k ⟨hk, hrel⟩
  repeat (any_goals (first | refine T.seq ?_ | refine T.region ?_ | refine TL.nil ?_ | refine N.next ?_ | refine N.inBlock ?_ | refine N.exit_same ?_ | refine N.exit_then ?_ | refine N.ret_then ?_ | refine N.ret_block ?_ | (apply N.exit_other; rfl) | refine T.ret ?_ | refine T.skip ?_ | refine T.exit ?_ | refine T.block ?_ | (apply T.cond_true; rfl) | (apply T.cond_false; rfl) | (apply T.test; rfl; (exact isx); intro _; rotate_left; intro _; rotate_right) | (apply TL.skip; rfl; rfl; rfl) | (apply TL.skip_none; rfl; rfl) | (apply TL.val; rfl; rfl; (first | exact vpure | exact vread)) | (apply TL.x; rfl; rfl; (first | exact xgrow | exact xput); intro _ _) | (apply TL.guard; rfl; rfl; rfl; (exact isx); intro _; rotate_left; intro _; rotate_right)))
  all_goals (try (apply N.ret_int; rfl; (exact rvx)))
  all_goals (try (refine N.round (k + 1) ?_ ?_ ?_ ?_ ?_; rotate_left 2; (repeat (first | exact True.intro | refine ⟨rfl, ?_⟩ | refine Sub.int rfl (by omega) ?_)); rfl; (first | exact List.Sublist.refl _ | exact List.nil_sublist _ | exact List.Sublist.cons _ (List.Sublist.refl _) | exact List.Sublist.cons _ (List.Sublist.cons _ (List.Sublist.refl _)))))
  all_goals first
    | omega
    | exact ⟨by omega, allTo_up (by omega) hrel (by simp [*])⟩
    | exact (idxI_at (by omega) (by simp [*]) (fun j hj => by have h' := hrel j (by omega) hj; simpa using h')).symm
    | exact (idxI_none (fun j hj => by have h' := hrel j hj (by omega); simpa using h')).symm
theorem c_ContInt (s : Slc Int) (x : Int) (H : Hp) (w : World) (hs : Sat H w) (hg : s.Good H) : Calls Tryz.prog 105 #[s.v, intV x] w (Ret w (.bool (s.els.any fun y => decide (x = y)))) := by
  refine T.enter (vs := [s.v, intV x]) (H := H) Tryz.func105 rfl rfl rfl hs ?_
  repeat (any_goals (first | refine T.seq ?_ | refine T.region ?_ | refine TL.nil ?_ | refine N.next ?_ | refine N.inBlock ?_ | refine N.exit_same ?_ | refine N.exit_then ?_ | refine N.ret_then ?_ | refine N.ret_block ?_ | (apply N.exit_other; rfl) | refine T.ret ?_ | refine T.skip ?_ | refine T.exit ?_ | refine T.block ?_ | (apply T.cond_true; rfl) | (apply T.cond_false; rfl) | (apply T.test; rfl; (exact isx); intro _; rotate_left; intro _; rotate_right) | (apply TL.skip; rfl; rfl; rfl) | (apply TL.skip_none; rfl; rfl) | (apply TL.call0 (f := 145) Tryz.call145; rfl; rfl; rfl; (exact fun _ hs => c_IndexInt _ _ _ _ hs.sat hg)) | (apply TL.val; rfl; rfl; (first | exact vpure | exact vread)) | (apply TL.x; rfl; rfl; (first | exact xgrow | exact xput); intro _ _) | (apply TL.guard; rfl; rfl; rfl; (exact isx); intro _; rotate_left; intro _; rotate_right)))
  all_goals (try (first | (apply N.ret_bool; rfl; (exact rvx)) | (apply N.ret_int; rfl; (exact rvx)) | (apply N.ret_val; rfl; (exact rvx))))
  exact idxI_ge _ _
theorem c_CloneIntO (s : Slc Int) (H : Hp) (w : World) (hs : Sat H w) (hg : s.Good H) (hb : s.len ≤ 1000) : Calls Tryz.prog 56 #[s.v] w (RetO w H (fun p : Option Nat × Nat => p.1 = none → s.len = 0 ∧ p.2 = 0) (fun p => .slice (p.1.map fun g => ⟨g, 0, none⟩) s.len p.2) (fun _ => H) (fun p => [.row (.slice (p.1.map fun g => ⟨g, 0, none⟩) s.len p.2) 3 (Enc.size Int) s.len (encs s.els)])) := by
  refine T.enter (vs := [s.v]) (H := H) Tryz.func56 rfl rfl rfl hs ?_
  repeat (any_goals (first | refine T.seq ?_ | refine T.region ?_ | refine TL.nil ?_ | refine N.next ?_ | refine N.inBlock ?_ | refine N.exit_same ?_ | refine N.exit_then ?_ | refine N.ret_then ?_ | refine N.ret_block ?_ | (apply N.exit_other; rfl) | refine T.ret ?_ | refine T.skip ?_ | refine T.exit ?_ | refine T.block ?_ | (apply T.cond_true; rfl) | (apply T.cond_false; rfl) | (apply T.test; rfl; (exact isx); intro _; rotate_left; intro _; rotate_right) | (apply TL.skip; rfl; rfl; rfl) | (apply TL.skip_none; rfl; rfl) | (apply TL.val; rfl; rfl; (apply V.sliceNil; (iterate 4 rfl))) | (apply TL.x; rfl; rfl; (apply X.buildSlice0; (iterate 4 rfl)); intro _ _) | (apply TL.x; rfl; rfl; (apply X.appendSlc 0 s; (iterate 10 rfl); exact hg; (refine Nat.le_trans (Nat.mul_le_mul_left _ (show _ ≤ 1000 by decide)) ?_; omega); omega); intro _ _) | (apply TL.val; rfl; rfl; (first | exact vpure | exact vread)) | (apply TL.x; rfl; rfl; (first | exact xgrow | exact xput); intro _ _) | (apply TL.guard; rfl; rfl; rfl; (exact isx); intro _; rotate_left; intro _; rotate_right)))
  · rename_i h
    have hl0 : s.len = 0 := by
      rcases Nat.eq_zero_or_pos s.len with h' | h'
      · exact h'
      · rw [hg.at_ h'] at h; cases h
    have hels : s.els = [] := List.eq_nil_of_length_eq_zero (by rw [hg.len]; exact hl0)
    apply N.ret1; rfl; (exact rvx)
    intro w1 hst
    refine ⟨(none, 0), fun _ => ⟨hl0, rfl⟩, by rw [hl0]; rfl, ?_⟩
    rw [hl0, hels]
    exact hst.nilRow _ _
  · rename_i v _
    apply N.ret1; rfl; (exact rvx)
    intro w1 hst
    obtain ⟨o, c, hv, h0⟩ := hst.rowShape (List.Mem.head _)
    rw [Nat.zero_add] at hv h0
    refine ⟨(o, c), h0, by rw [hv], ?_⟩
    have hst' := hst.sub (L' := [.row v 3 _ (0 + s.len) ([] ++ encs s.els)]) (by (first | exact List.Sublist.refl _ | exact List.nil_sublist _ | exact List.Sublist.cons _ (List.Sublist.refl _) | exact List.Sublist.cons _ (List.Sublist.cons _ (List.Sublist.refl _))))
    rw [Nat.zero_add, List.nil_append, hv] at hst'
    exact hst'
theorem c_CloneInt (s : Slc Int) (H : Hp) (w : World) (hs : Sat H w) (hg : s.Good H) (hb : s.len ≤ 1000) : Calls Tryz.prog 56 #[s.v] w (RetF w H (fun p : Hp × Slc Int => p.2.els = s.els ∧ p.2.Good p.1) (fun p => p.2.v) (fun p => p.1)) := by
  refine Calls.mono (c_CloneIntO s H w hs hg hb) fun e w' => ?_
  rintro ⟨p, h0, rfl, hst⟩
  obtain ⟨H', s', h1, h2, h3, h4, h5⟩ := hst.freezeRow rfl hg.len hg.els
  exact ⟨(H', s'), ⟨h2, h3⟩, congrArg Ending.returned h1.symm, h5.fresh⟩
end Go.Proofs.YtpnoabbdcakjkaaGreatDoor
namespace Go.Proofs.YtpnoabbdcakjkaaGreatDoor
set_option linter.unusedVariables false
set_option linter.unusedSimpArgs false
open Go Go.RowKit
open Enc (enc)
structure HostV where
  name : List UInt8
  addr : Int
  owner : Int
deriving DecidableEq
instance : Enc HostV where
  size := 3
  enc h := [strV h.name, intV h.addr, intV h.owner]
  good _ h := LenOk h.name ∧ I64 h.addr ∧ I64 h.owner
  len _ := rfl
  mono _ h := h
  one _ := rfl
  pos := by decide
structure ZoneV where
  apex : List UInt8
  sets : Slc Signed
instance : Enc ZoneV where
  size := 2
  enc z := [strV z.apex, .slice z.sets.A z.sets.len z.sets.cap]
  good H z := LenOk z.apex ∧ z.sets.Good H
  len _ := rfl
  mono hle h := ⟨h.1, h.2.mono hle⟩
  one _ := rfl
  pos := by decide
structure CopyV where
  host : Int
  frm : Int
  til : Int
  zone : ZoneV
instance : Enc CopyV where
  size := 5
  enc c := [intV c.host, intV c.frm, intV c.til, strV c.zone.apex, .slice c.zone.sets.A c.zone.sets.len c.zone.sets.cap]
  good H c := I64 c.host ∧ I64 c.frm ∧ I64 c.til ∧ Enc.good H c.zone
  len _ := rfl
  mono hle h := ⟨h.1, h.2.1, h.2.2.1, Enc.mono hle h.2.2.2⟩
  one _ := rfl
  pos := by decide
structure HistV where
  hosts : Slc HostV
  copies : Slc CopyV
  anchor : RSet
  hints : Slc Int
  drift : Int
  fin : Int
instance : Enc HistV where
  size := 9
  enc h := [.slice h.hosts.A h.hosts.len h.hosts.cap, .slice h.copies.A h.copies.len h.copies.cap, strV h.anchor.name, intV h.anchor.typ, intV h.anchor.life, .slice h.anchor.data.A h.anchor.data.len h.anchor.data.cap, .slice h.hints.A h.hints.len h.hints.cap, intV h.drift, intV h.fin]
  good H h := h.hosts.Good H ∧ h.copies.Good H ∧ Enc.good H h.anchor ∧ h.hints.Good H ∧ I64 h.drift ∧ I64 h.fin
  len _ := rfl
  mono hle h := ⟨h.1.mono hle, h.2.1.mono hle, Enc.mono hle h.2.2.1, h.2.2.2.1.mono hle, h.2.2.2.2⟩
  one _ := rfl
  pos := by decide
end Go.Proofs.YtpnoabbdcakjkaaGreatDoor
namespace Go.Proofs.YtpnoabbdcakjkaaGreatDoor
set_option linter.unusedVariables false
set_option linter.unusedSimpArgs false
open Go Go.RowKit
set_option maxRecDepth 20000
theorem V.fieldA {P : Program} {n : FK} {S : World → Prop} {env : List (Nat × Value)} [Tys P] {st : TypeId} {x : Operand} {f off sz : Nat} {ft : TypeId} {k kf : TyK} {fs : List (Nat × Nat × TypeId)} {cs vs : List Value} (hk : tyk P st = some k) (hd : k.desc = .struct fs) (hf : fs[f]? = some (off, sz, ft)) (hkf : tyk P ft = some kf) (ha : kf.desc.agg = true) (hx : ev env x = some (.agg cs.toArray)) (hv : (cs.drop off).take kf.size = vs) : V P n S env (.field st x f) (.agg vs.toArray) :=
  ⟨fun o a w ho hfr _ => by
    obtain ⟨d, hu, hf'⟩ := (tyk_ok hk).und
    rw [hd] at hf'
    obtain ⟨fields, rfl, hmap⟩ := hf'
    have hff : (fields.toList.map (fun f => (f.offset, P.cellsOf f.type, f.type)))[f]? = some (off, sz, ft) := by rw [hmap]; exact hf
    rw [List.getElem?_map] at hff
    cases hg : fields.toList[f]? with
    | none => rw [hg] at hff; cases hff
    | some fld =>
      rw [hg] at hff
      simp at hff
      obtain ⟨e1, e2, e3⟩ := hff
      have hg' : fields[f]? = some fld := by simpa using hg
      have hA := (tyk_ok hkf).isAgg w
      have hS := (tyk_ok hkf).sizeOf w
      rw [ha] at hA
      subst hv
      unfold execOp; rw [ho]
      simp [hfr.ev hx, Instr.field, run_underlying hu, hg', e3, e1, part, asAgg, hA, hS]⟩
section
variable {P : Program} {n : FK} {w0 : World} {H0 HS H : Hp} {K : KZ} {env : List (Nat × Value)} {LS L : List Loc} {ops : List Oper} {ok : Bool} {fuel k : Nat} {ex : List Nat}
theorem GT.forkN (rs : List Nat) (hr : readyB ops k ex rs = true) (hne : rs.isEmpty = false) (h : AllS (GS P n w0 H0 ops K HS LS ok fuel k ex env H L) rs) : GT P n w0 H0 ops K HS LS ok (fuel + 1) k ex env H L :=
  GT.fork rs (by simpa [readyB] using hr) hne h
end
end Go.Proofs.YtpnoabbdcakjkaaGreatDoor
set_option pp.deepTerms true
set_option pp.maxSteps 10000000
namespace Go.Proofs.YtpnoabbdcakjkaaGreatDoor
set_option linter.unusedVariables false
set_option linter.unusedSimpArgs false
open Go Go.RowKit
open Enc (enc)
set_option maxRecDepth 20000
theorem dA_good (H : Hp) : Enc.good H dA := ⟨by show LenOk [97]; decide, by show I64 0; decide, by show I64 0; decide⟩
theorem dStart_good (H : Hp) : Enc.good H dStart := ⟨by show LenOk []; decide, by show I64 1; decide, by show I64 9; decide⟩
theorem dKey_good (H : Hp) : Enc.good H dKey := ⟨by show LenOk []; decide, by show I64 1; decide, by show I64 1; decide⟩
theorem dAddr_good (H : Hp) : Enc.good H dAddr := ⟨by show LenOk []; decide, by show I64 1; decide, by show I64 0; decide⟩
theorem dT_good (H : Hp) : Enc.good H dT := ⟨by show LenOk [116]; decide, by show I64 0; decide, by show I64 0; decide⟩
theorem dF_good (H : Hp) : Enc.good H dF := ⟨by show LenOk [102]; decide, by show I64 0; decide, by show I64 0; decide⟩
theorem good5 {H1 H2 H3 H4 H5 : Hp} {a b c d e : Signed} (h1 : Enc.good H1 a) (l2 : H1.le H2) (h2 : Enc.good H2 b) (l3 : H2.le H3) (h3 : Enc.good H3 c) (l4 : H3.le H4) (h4 : Enc.good H4 d) (l5 : H4.le H5) (h5 : Enc.good H5 e) : ∀ x ∈ [a, b, c, d, e], Enc.good H5 x := by
  intro x hx
  simp at hx
  rcases hx with rfl | rfl | rfl | rfl | rfl
  · exact Enc.mono (l2.trans (l3.trans (l4.trans l5))) h1
  · exact Enc.mono (l3.trans (l4.trans l5)) h2
  · exact Enc.mono (l4.trans l5) h3
  · exact Enc.mono l5 h4
  · exact h5
def hostA : HostV := ⟨[97], 1, 0⟩
theorem hostA_good (H : Hp) : Enc.good H hostA := ⟨by show LenOk [97]; decide, by show I64 1; decide, by show I64 0; decide⟩
/-- The example's history, by its blocks and sets. -/
def histT (b12 b15 b18 b22 : Nat) (s0 s1 s2 s3 s4 : Signed) (an : RSet) : HistV := ⟨⟨some ⟨b15, 0, none⟩, 1, 1, [hostA]⟩, ⟨some ⟨b18, 0, none⟩, 1, 1, [⟨0, 0, 100, ⟨[46], ⟨some ⟨b12, 0, none⟩, 5, 5, [s0, s1, s2, s3, s4]⟩⟩⟩]⟩, an, ⟨some ⟨b22, 0, none⟩, 1, 1, [1]⟩, 0, 100⟩
set_option maxHeartbeats 16000000 in
theorem c_r14History {H : Hp} {w : World} (hs : Sat H w) (hR : Rules H) : Calls Tryz.prog 14 #[] w
    (RetF w H (fun g : Hp × Nat × Nat × Nat × Nat × Signed × Signed × Signed × Signed × Signed × RSet => Enc.good g.1 (histT g.2.1 g.2.2.1 g.2.2.2.1 g.2.2.2.2.1 g.2.2.2.2.2.1 g.2.2.2.2.2.2.1 g.2.2.2.2.2.2.2.1 g.2.2.2.2.2.2.2.2.1 g.2.2.2.2.2.2.2.2.2.1 g.2.2.2.2.2.2.2.2.2.2) ∧ g.2.2.2.2.2.2.2.1.c = kyT ∧ g.2.2.2.2.2.2.2.2.2.1.c = txT ∧ g.2.2.2.2.2.2.2.2.2.2.c = anT) (fun g => .agg (enc (histT g.2.1 g.2.2.1 g.2.2.2.1 g.2.2.2.2.1 g.2.2.2.2.2.1 g.2.2.2.2.2.2.1 g.2.2.2.2.2.2.2.1 g.2.2.2.2.2.2.2.2.1 g.2.2.2.2.2.2.2.2.2.1 g.2.2.2.2.2.2.2.2.2.2)).toArray) (fun g => g.1)) := by
  refine T.enter (vs := []) (H := H) Tryz.func14 rfl rfl rfl hs ?_
  repeat (any_goals (first | refine T.seq ?_ | refine T.region ?_ | (apply T.regionD wide; rfl) | refine TL.nil ?_ | refine N.next ?_ | refine N.inBlock ?_ | refine N.exit_same ?_ | refine N.exit_then ?_ | refine N.ret_then ?_ | refine N.ret_block ?_ | (apply N.exit_other; rfl) | refine T.ret ?_ | refine T.skip ?_ | refine T.exit ?_ | refine T.block ?_ | (apply T.cond_true; rfl) | (apply T.cond_false; rfl) | (apply T.test; rfl; (exact isx); intro _; rotate_left; intro _; rotate_right) | (apply TL.skip; rfl; rfl; rfl) | (apply TL.skip_none; rfl; rfl) | (apply GT.skip; rfl; rfl; rfl; decide +kernel) | (apply TL.x; rfl; rfl; (apply X.alloc (d := 0); rfl; rfl; rfl); intro b0 _) | (apply TL.val; rfl; rfl; (apply V.build; (iterate 6 rfl))) | (apply GT.pure; (iterate 4 rfl); (apply V.build; (iterate 6 rfl)); decide +kernel) | (apply GT.read; (iterate 4 rfl); (apply V.build; (iterate 6 rfl)); decide +kernel) | (apply TL.x; rfl; rfl; (apply X.callFE (f := 15) [strV [46], intV 2, .agg (enc dA).toArray, strV [46], intV 1] Tryz.call15; rfl; rfl; rfl; exact (fun _ hs => c_r14SetS [46] 2 dA [46] 1 sig_1 (by decide) hs.sat hR (by decide) (by decide) (dA_good _) (by decide) (by decide))); intro p1 hp1; have hR := Rules.mono hp1.2 hR) | (apply TL.x; rfl; rfl; (apply X.callFE (f := 15) [strV [46], intV 4, .agg (enc dStart).toArray, strV [46], intV 1] Tryz.call15; rfl; rfl; rfl; exact (fun _ hs => c_r14SetS [46] 4 dStart [46] 1 sig_2 (by decide) hs.sat hR (by decide) (by decide) (dStart_good _) (by decide) (by decide))); intro p2 hp2; have hR := Rules.mono hp2.2 hR) | (apply TL.x; rfl; rfl; (apply X.callFE (f := 15) [strV [46], intV 7, .agg (enc dKey).toArray, strV [46], intV 1] Tryz.call15; rfl; rfl; rfl; exact (fun _ hs => c_r14SetS [46] 7 dKey [46] 1 sig_3 (by decide) hs.sat hR (by decide) (by decide) (dKey_good _) (by decide) (by decide))); intro p3 hp3; have hR := Rules.mono hp3.2 hR) | (apply TL.x; rfl; rfl; (apply X.callFE (f := 15) [strV [97], intV 1, .agg (enc dAddr).toArray, strV [46], intV 1] Tryz.call15; rfl; rfl; rfl; exact (fun _ hs => c_r14SetS [97] 1 dAddr [46] 1 sig_4 (by decide) hs.sat hR (by decide) (by decide) (dAddr_good _) (by decide) (by decide))); intro p4 hp4; have hR := Rules.mono hp4.2 hR) | (apply TL.x; rfl; rfl; (apply X.callFE (f := 15) [strV [116], intV 5, .agg (enc dT).toArray, strV [46], intV 1] Tryz.call15; rfl; rfl; rfl; exact (fun _ hs => c_r14SetS [116] 5 dT [46] 1 sig_5 (by decide) hs.sat hR (by decide) (by decide) (dT_good _) (by decide) (by decide))); intro p5 hp5; have hR := Rules.mono hp5.2 hR) | (apply TL.x; rfl; rfl; (apply X.buildParts (encs [p1.2, p2.2, p3.2, p4.2, p5.2]); (iterate 11 rfl)); intro b12 _; apply TL.frzBlk 0 (els := [p1.2, p2.2, p3.2, p4.2, p5.2]) (m := 5) rfl rfl rfl (by decide) (good5 hp1.1.2 hp2.2 hp2.1.2 hp3.2 hp3.1.2 hp4.2 hp4.1.2 hp5.2 hp5.1.2); intro H6 z12 hle6; have hR := Rules.mono hle6 hR) | (apply TL.x; rfl; rfl; (apply X.alloc (d := 1); rfl; rfl; rfl); intro b1 _) | (apply TL.x; rfl; rfl; (apply X.storeTo 0 (enc (⟨[46], ⟨some ⟨b12, 0, none⟩, 5, 5, [p1.2, p2.2, p3.2, p4.2, p5.2]⟩⟩ : ZoneV)); (iterate 10 rfl)); intro _ _) | (apply GS.eff; rfl; decide +kernel; rfl; (apply X.storeTo 0 (enc (⟨[46], ⟨some ⟨b12, 0, none⟩, 5, 5, [p1.2, p2.2, p3.2, p4.2, p5.2]⟩⟩ : ZoneV)); (iterate 10 rfl)); intro _ _) | (apply GS.grow; rfl; rfl; (apply X.buildSlice1 (d := 15); (iterate 8 rfl)); intro b15 _) | (apply GS.grow; rfl; rfl; (apply X.buildSlice1 (d := 18); (iterate 8 rfl)); intro b18 _) | (apply GS.grow; rfl; rfl; (apply X.buildSlice1 (d := 22); (iterate 8 rfl)); intro b22 _) | (apply GS.grow; rfl; rfl; (apply X.callFE (f := 15) [strV [46], intV 6, .agg (enc dKey).toArray, strV [], intV 0] Tryz.call15; rfl; rfl; rfl; exact (fun _ hs => c_r14Set0 [46] 6 dKey [] rfl hs.sat hR (by decide) (by decide) (dKey_good _) (by decide))); intro p6 hp6) | (apply GT.pureAt 3; (iterate 4 rfl); (apply V.build; (iterate 6 rfl)); decide +kernel) | (apply GT.readAt 3; (iterate 4 rfl); (apply V.build; (iterate 6 rfl)); decide +kernel) | (apply GT.pureAt 5; (iterate 4 rfl); (apply V.build; (iterate 6 rfl)); decide +kernel) | (apply GT.readAt 5; (iterate 4 rfl); (apply V.build; (iterate 6 rfl)); decide +kernel) | (apply GT.pureAt 9; (iterate 4 rfl); (apply V.build; (iterate 6 rfl)); decide +kernel) | (apply GT.readAt 9; (iterate 4 rfl); (apply V.build; (iterate 6 rfl)); decide +kernel) | (apply GT.pureAt 7; (iterate 4 rfl); (apply V.fieldA; (iterate 7 rfl)); decide +kernel) | (apply GT.readAt 7; (iterate 4 rfl); (apply V.fieldA; (iterate 7 rfl)); decide +kernel) | (apply GT.forkN [1, 4, 6, 8]; decide +kernel; rfl; refine ⟨?_, ?_, ?_, ?_, trivial⟩) | (apply GT.forkN [1, 4, 6]; decide +kernel; rfl; refine ⟨?_, ?_, ?_, trivial⟩) | (apply GT.forkN [1, 4, 8]; decide +kernel; rfl; refine ⟨?_, ?_, ?_, trivial⟩) | (apply GT.forkN [1, 6, 8]; decide +kernel; rfl; refine ⟨?_, ?_, ?_, trivial⟩) | (apply GT.forkN [4, 6, 8]; decide +kernel; rfl; refine ⟨?_, ?_, ?_, trivial⟩) | (apply GS.eff; rfl; decide +kernel; rfl; (apply X.storeTo 4 (enc (histT b12 b15 b18 b22 p1.2 p2.2 p3.2 p4.2 p5.2 p6.2.set)); (iterate 10 rfl)); intro _ _) | (apply TL.val; rfl; rfl; (first | exact vpure | exact vread)) | (apply GT.pure; (iterate 4 rfl); (first | exact vpure); decide +kernel) | (apply GT.read; (iterate 4 rfl); (first | exact vpure | exact vread); decide +kernel) | (apply GT.done; decide +kernel; apply N.ofQ) | (apply GT.adv; rfl) | (apply TL.x; rfl; rfl; (first | exact xgrow | exact xput); intro _ _) | (apply GS.grow; rfl; rfl; (first | exact xgrow); intro _ _) | (apply GS.eff; rfl; decide +kernel; rfl; (first | exact xput); intro _ _) | (apply GT.pureAt 1; (iterate 4 rfl); (first | exact vpure); decide +kernel) | (apply GT.readAt 1; (iterate 4 rfl); (first | exact vpure | exact vread); decide +kernel) | (apply GT.pureAt 2; (iterate 4 rfl); (first | exact vpure); decide +kernel) | (apply GT.readAt 2; (iterate 4 rfl); (first | exact vpure | exact vread); decide +kernel) | (apply GT.pureAt 3; (iterate 4 rfl); (first | exact vpure); decide +kernel) | (apply GT.readAt 3; (iterate 4 rfl); (first | exact vpure | exact vread); decide +kernel) | (apply GT.pureAt 4; (iterate 4 rfl); (first | exact vpure); decide +kernel) | (apply GT.readAt 4; (iterate 4 rfl); (first | exact vpure | exact vread); decide +kernel) | (apply GT.pureAt 5; (iterate 4 rfl); (first | exact vpure); decide +kernel) | (apply GT.readAt 5; (iterate 4 rfl); (first | exact vpure | exact vread); decide +kernel) | (apply GT.pureAt 6; (iterate 4 rfl); (first | exact vpure); decide +kernel) | (apply GT.readAt 6; (iterate 4 rfl); (first | exact vpure | exact vread); decide +kernel) | (apply GT.pureAt 7; (iterate 4 rfl); (first | exact vpure); decide +kernel) | (apply GT.readAt 7; (iterate 4 rfl); (first | exact vpure | exact vread); decide +kernel) | (apply GT.pureAt 8; (iterate 4 rfl); (first | exact vpure); decide +kernel) | (apply GT.readAt 8; (iterate 4 rfl); (first | exact vpure | exact vread); decide +kernel) | (apply GT.pureAt 9; (iterate 4 rfl); (first | exact vpure); decide +kernel) | (apply GT.readAt 9; (iterate 4 rfl); (first | exact vpure | exact vread); decide +kernel) | (apply TL.guard; rfl; rfl; rfl; (exact isx); intro _; rotate_left; intro _; rotate_right) | (apply GT.guard; (iterate 4 rfl); (exact isx); intro _; rotate_left; intro _; rotate_right) | (apply GT.fork1; decide +kernel) | (apply GT.fork2 1; decide +kernel) | (apply GT.fork2 2; decide +kernel) | (apply GT.fork2 3; decide +kernel) | (apply GT.fork2 4; decide +kernel) | (apply GT.fork2 5; decide +kernel) | (apply GT.fork2 6; decide +kernel) | (apply GT.fork2 7; decide +kernel) | (apply GT.fork2 8; decide +kernel) | (apply GT.fork2 9; decide +kernel) | (apply GT.fork2 10; decide +kernel) | (apply GT.fork2 11; decide +kernel) | (apply GT.fork2 12; decide +kernel) | (apply GT.fork2 13; decide +kernel) | (apply GT.fork2 14; decide +kernel)))
  all_goals refine N.ret1 rfl (by (exact rvx)) fun w1 hst => ?_
  all_goals first
    | obtain ⟨H7, g7, l7, s7⟩ := (hst.perm (perm_of (i := 0) rfl)).frzBlk (α := HostV) (els := [hostA]) (m := 1) rfl (by decide) (fun x hx => (List.mem_singleton.1 hx) ▸ hostA_good _)
    | obtain ⟨H7, g7, l7, s7⟩ := (hst.perm (perm_of (i := 1) rfl)).frzBlk (α := HostV) (els := [hostA]) (m := 1) rfl (by decide) (fun x hx => (List.mem_singleton.1 hx) ▸ hostA_good _)
    | obtain ⟨H7, g7, l7, s7⟩ := (hst.perm (perm_of (i := 2) rfl)).frzBlk (α := HostV) (els := [hostA]) (m := 1) rfl (by decide) (fun x hx => (List.mem_singleton.1 hx) ▸ hostA_good _)
  all_goals first
    | obtain ⟨H8, g8, l8, s8⟩ := (s7.perm (perm_of (i := 0) rfl)).frzBlk (α := CopyV) (els := [(⟨0, 0, 100, ⟨[46], ⟨some ⟨b12, 0, none⟩, 5, 5, [p1.2, p2.2, p3.2, p4.2, p5.2]⟩⟩⟩ : CopyV)]) (m := 1) rfl (by decide) (fun x hx => (List.mem_singleton.1 hx) ▸ (⟨by show I64 0; decide, by show I64 0; decide, by show I64 100; decide, by show LenOk [46]; decide, z12.mono (hp6.2.trans l7)⟩ : Enc.good H7 (⟨0, 0, 100, ⟨[46], ⟨some ⟨b12, 0, none⟩, 5, 5, [p1.2, p2.2, p3.2, p4.2, p5.2]⟩⟩⟩ : CopyV)))
    | obtain ⟨H8, g8, l8, s8⟩ := (s7.perm (perm_of (i := 1) rfl)).frzBlk (α := CopyV) (els := [(⟨0, 0, 100, ⟨[46], ⟨some ⟨b12, 0, none⟩, 5, 5, [p1.2, p2.2, p3.2, p4.2, p5.2]⟩⟩⟩ : CopyV)]) (m := 1) rfl (by decide) (fun x hx => (List.mem_singleton.1 hx) ▸ (⟨by show I64 0; decide, by show I64 0; decide, by show I64 100; decide, by show LenOk [46]; decide, z12.mono (hp6.2.trans l7)⟩ : Enc.good H7 (⟨0, 0, 100, ⟨[46], ⟨some ⟨b12, 0, none⟩, 5, 5, [p1.2, p2.2, p3.2, p4.2, p5.2]⟩⟩⟩ : CopyV)))
    | obtain ⟨H8, g8, l8, s8⟩ := (s7.perm (perm_of (i := 2) rfl)).frzBlk (α := CopyV) (els := [(⟨0, 0, 100, ⟨[46], ⟨some ⟨b12, 0, none⟩, 5, 5, [p1.2, p2.2, p3.2, p4.2, p5.2]⟩⟩⟩ : CopyV)]) (m := 1) rfl (by decide) (fun x hx => (List.mem_singleton.1 hx) ▸ (⟨by show I64 0; decide, by show I64 0; decide, by show I64 100; decide, by show LenOk [46]; decide, z12.mono (hp6.2.trans l7)⟩ : Enc.good H7 (⟨0, 0, 100, ⟨[46], ⟨some ⟨b12, 0, none⟩, 5, 5, [p1.2, p2.2, p3.2, p4.2, p5.2]⟩⟩⟩ : CopyV)))
  all_goals first
    | obtain ⟨H9, g9, l9, s9⟩ := (s8.perm (perm_of (i := 0) rfl)).frzBlk (α := Int) (els := [(1 : Int)]) (m := 1) rfl (by decide) (fun x hx => (List.mem_singleton.1 hx) ▸ (show I64 1 by decide))
    | obtain ⟨H9, g9, l9, s9⟩ := (s8.perm (perm_of (i := 1) rfl)).frzBlk (α := Int) (els := [(1 : Int)]) (m := 1) rfl (by decide) (fun x hx => (List.mem_singleton.1 hx) ▸ (show I64 1 by decide))
    | obtain ⟨H9, g9, l9, s9⟩ := (s8.perm (perm_of (i := 2) rfl)).frzBlk (α := Int) (els := [(1 : Int)]) (m := 1) rfl (by decide) (fun x hx => (List.mem_singleton.1 hx) ▸ (show I64 1 by decide))
  all_goals exact ⟨(H9, b12, b15, b18, b22, p1.2, p2.2, p3.2, p4.2, p5.2, p6.2.set), ⟨⟨(g7.mono l8).mono l9, g8.mono l9, Enc.mono (l7.trans (l8.trans l9)) hp6.1.2.1, g9, by show I64 0; decide, by show I64 100; decide⟩, hp3.1.1, hp5.1.1, congrArg SignedC.set hp6.1.1⟩, rfl, s9.fresh⟩
end Go.Proofs.YtpnoabbdcakjkaaGreatDoor
