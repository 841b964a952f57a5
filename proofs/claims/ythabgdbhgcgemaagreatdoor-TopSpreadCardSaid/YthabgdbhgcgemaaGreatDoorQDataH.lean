import Derived.Test.YthabgdbhgcgemaaGreatDoorQTy
import Derived.Laws.StructEq
import Derived.Test.YthabgdbhgcgemaaGreatDoorQWB
import Derived.Test.YthabgdbhgcgemaaGreatDoorQSpec
import Derived.Test.YthabgdbhgcgemaaGreatDoorQEngC
import Derived.Test.YthabgdbhgcgemaaGreatDoorQTac
import Derived.Test.YthabgdbhgcgemaaGreatDoorQWA
import Derived.Test.YthabgdbhgcgemaaGreatDoorQData
namespace Go.Proofs.YthabgdbhgcgemaaGreatDoor
set_option linter.unusedVariables false
set_option linter.unusedSimpArgs false
open Go Go.RowKit
open Enc (enc)
set_option maxRecDepth 20000
section
variable {P : Program} {n : FK} {S : World → Prop} {env : List (Nat × Value)}
theorem V.aneq {t u : TypeId} {x y : Operand} {xs ys : Array Value} {e : Bool} (hx : ev env x = some (.agg xs)) (hy : ev env y = some (.agg ys)) (hg : P.eqGuardType P.depth t = false) (he : ∀ w, (Op.equalIn 10000 t (.agg xs) (.agg ys)).run P w = .ok e w) : V P n S env (.binOp .neq t x y u) (.bool (!e)) :=
  ⟨fun o a w ho hf _ => by unfold execOp; rw [ho]; simp only [hf.ev hx, hf.ev hy, Sem.run_bind, run_eqGuard_agg w .neq t _ _ xs ys hg, Result.andThen_ok, run_neq_struct, he]; simp⟩
theorem run_part [Tys P] {t : TypeId} {k : TyK} (hk : tyk P t = some k) (ha : k.desc.agg = false) {xs : Array Value} {o : Nat} {v : Value} (hv : xs[o]? = some v) (w : World) : (part t xs o).run P w = .ok v w := by
  unfold part
  have := (tyk_ok hk).isAgg w
  rw [ha] at this
  simp [Sem.run_bind, this, hv]
theorem eqF_nil {d : Nat} {xs ys : Array Value} {w : World} : (Op.eqFields d xs ys []).run P w = .ok true w := rfl
theorem eqF_cons [Tys P] {d : Nat} {xs ys : Array Value} {w : World} {f : Field} {fs : List Field} {k : TyK} {a b : Value} {e r : Bool} (hn : f.name ≠ "_") (hk : tyk P f.type = some k) (ha : k.desc.agg = false) (hx : xs[f.offset]? = some a) (hy : ys[f.offset]? = some b)
    (he : (Op.equalIn d f.type a b).run P w = .ok e w) (hr : (Op.eqFields d xs ys fs).run P w = .ok r w) : (Op.eqFields d xs ys (f :: fs)).run P w = .ok (e && r) w := by
  unfold Op.eqFields
  rw [if_pos hn]
  simp only [Sem.run_bind, run_part hk ha hx, run_part hk ha hy, Result.andThen_ok, he]
  cases e <;> simp [hr]
theorem eqI [Tys P] {d : Nat} {w : World} {t : TypeId} {k : IntKind} {a b : Int} (h : P.underlying t = some (.int k)) : (Op.equalIn (d + 1) t (.int k a) (.int k b)).run P w = .ok (decide (a = b)) w := by
  rw [run_equalIn_int w d t k k a b h]
  congr 1
theorem eqS [Tys P] {d : Nat} {w : World} {t : TypeId} {a b : Bytes} (h : P.underlying t = some .string) : (Op.equalIn (d + 1) t (strV a) (strV b)).run P w = .ok (decide (a = b)) w := by
  rw [run_equalIn_string w d t _ _ h, bytes_eq]
end
theorem eq_Datum (a b : Datum) (w : World) : (Op.equalIn 10000 79 (.agg (enc a).toArray) (.agg (enc b).toArray)).run Tryz.prog w = .ok (decide (a = b)) w := by
  have hS : Tryz.prog.underlying 79 = some (.struct (Tryz.prog.fieldsOf 79)) := by kernel_rfl
  rw [show (10000 : Nat) = 9999 + 1 from rfl, run_equalIn_agg w 9999 79 _ _ hS Tryz.stoodInHeld79]
  simp only [Program.fieldsOf, Tryz.underlying79]
  have e : decide (a = b) = (decide (a.text = b.text) && (decide (a.n = b.n) && (decide (a.m = b.m) && true))) := by
    rw [Bool.eq_iff_iff]; cases a; cases b; simp
  rw [e]
  refine eqF_cons (by decide) rfl rfl rfl rfl (eqS Tryz.underlying9) ?_
  refine eqF_cons (by decide) rfl rfl rfl rfl (eqI Tryz.underlying3) ?_
  refine eqF_cons (by decide) rfl rfl rfl rfl (eqI Tryz.underlying3) ?_
  exact eqF_nil
theorem eq_Question (a b : Question) (w : World) : (Op.equalIn 10000 91 (.agg (enc a).toArray) (.agg (enc b).toArray)).run Tryz.prog w = .ok (decide (a = b)) w := by
  have hS : Tryz.prog.underlying 91 = some (.struct (Tryz.prog.fieldsOf 91)) := by kernel_rfl
  rw [show (10000 : Nat) = 9999 + 1 from rfl, run_equalIn_agg w 9999 91 _ _ hS Tryz.stoodInHeld91]
  simp only [Program.fieldsOf, Tryz.underlying91]
  have e : decide (a = b) = (decide (a.name = b.name) && (decide (a.typ = b.typ) && true)) := by
    rw [Bool.eq_iff_iff]; cases a; cases b; simp
  rw [e]
  refine eqF_cons (by decide) rfl rfl rfl rfl (eqS Tryz.underlying9) ?_
  refine eqF_cons (by decide) rfl rfl rfl rfl (eqI Tryz.underlying3) ?_
  exact eqF_nil
theorem eq_Sig (a b : Sig) (w : World) : (Op.equalIn 10000 102 (.agg (enc a).toArray) (.agg (enc b).toArray)).run Tryz.prog w = .ok (decide (a = b)) w := by
  have hS : Tryz.prog.underlying 102 = some (.struct (Tryz.prog.fieldsOf 102)) := by kernel_rfl
  rw [show (10000 : Nat) = 9999 + 1 from rfl, run_equalIn_agg w 9999 102 _ _ hS Tryz.stoodInHeld102]
  simp only [Program.fieldsOf, Tryz.underlying102]
  have e : decide (a = b) = (decide (a.zone = b.zone) && (decide (a.key = b.key) && (decide (a.alg = b.alg) && (decide (a.frm = b.frm) && (decide (a.til = b.til) && (decide (a.sum = b.sum) && true)))))) := by
    rw [Bool.eq_iff_iff]; cases a; cases b; simp
  rw [e]
  refine eqF_cons (by decide) rfl rfl rfl rfl (eqS Tryz.underlying9) ?_
  refine eqF_cons (by decide) rfl rfl rfl rfl (eqI Tryz.underlying3) ?_
  refine eqF_cons (by decide) rfl rfl rfl rfl (eqI Tryz.underlying3) ?_
  refine eqF_cons (by decide) rfl rfl rfl rfl (eqI Tryz.underlying3) ?_
  refine eqF_cons (by decide) rfl rfl rfl rfl (eqI Tryz.underlying3) ?_
  refine eqF_cons (by decide) rfl rfl rfl rfl (eqI Tryz.underlying100) ?_
  exact eqF_nil
end Go.Proofs.YthabgdbhgcgemaaGreatDoor
namespace Go.Proofs.YthabgdbhgcgemaaGreatDoor
set_option linter.unusedVariables false
set_option linter.unusedSimpArgs false
open Go Go.RowKit
set_option maxRecDepth 20000
theorem c_CloneSignedO (s : Slc Signed) (H : Hp) (w : World) (hs : Sat H w) (hg : s.Good H) (hb : s.len ≤ 1000) : Calls Tryz.prog 41 #[s.v] w (RetO w H (fun p : Option Nat × Nat => p.1 = none → s.len = 0 ∧ p.2 = 0) (fun p => .slice (p.1.map fun g => ⟨g, 0, none⟩) s.len p.2) (fun _ => H) (fun p => [.row (.slice (p.1.map fun g => ⟨g, 0, none⟩) s.len p.2) 86 (Enc.size Signed) s.len (encs s.els)])) := by
  refine T.enter (vs := [s.v]) (H := H) Tryz.func41 rfl rfl rfl hs ?_
  repeat (any_goals (first | refine T.seq ?_ | refine T.region ?_ | refine TL.nil ?_ | refine N.next ?_ | refine N.ret_then ?_ | refine T.ret ?_ | refine T.skip ?_ | (apply T.test; rfl; (exact isx); intro _; rotate_left; intro _; rotate_right) | (apply TL.val; rfl; rfl; (apply V.sliceNil; (iterate 4 rfl))) | (apply TL.x; rfl; rfl; (apply X.appendSlc 0 s; (iterate 10 rfl); exact hg; (refine Nat.le_trans (Nat.mul_le_mul_left _ (show _ ≤ 1000 by decide)) ?_; omega); omega); intro _ _) | (apply TL.val; rfl; rfl; (first | exact vpure | exact vread)) | (apply TL.x; rfl; rfl; (first | exact xgrow | exact xput); intro _ _)))
  · rename_i h
    have hl0 : s.len = 0 := by
      rcases Nat.eq_zero_or_pos s.len with h' | h'
      · exact h'
      · rw [hg.at_ h'] at h; cases h
    have hels : s.els = [] := List.eq_nil_of_length_eq_zero (by rw [hg.len]; exact hl0)
    apply N.ret1; rfl; (exact rvx)
    intro w1 hst
    refine ⟨(none, 0), fun _ => ⟨hl0, rfl⟩, by rw [hl0]; rfl, ?_⟩
    rw [hl0, hels]
    exact hst.nilRow _ _
  · rename_i v _
    apply N.ret1; rfl; (exact rvx)
    intro w1 hst
    obtain ⟨o, c, hv, h0⟩ := hst.rowShape (List.Mem.head _)
    rw [Nat.zero_add] at hv h0
    refine ⟨(o, c), h0, by rw [hv], ?_⟩
    have hst' := hst.sub (L' := [.row v 86 _ (0 + s.len) ([] ++ encs s.els)]) (by (first | exact List.Sublist.refl _ | exact List.nil_sublist _ | exact List.Sublist.cons _ (List.Sublist.refl _) | exact List.Sublist.cons _ (List.Sublist.cons _ (List.Sublist.refl _))))
    rw [Nat.zero_add, List.nil_append, hv] at hst'
    exact hst'
theorem c_CloneDatumO (s : Slc Datum) (H : Hp) (w : World) (hs : Sat H w) (hg : s.Good H) (hb : s.len ≤ 1000) : Calls Tryz.prog 42 #[s.v] w (RetO w H (fun p : Option Nat × Nat => p.1 = none → s.len = 0 ∧ p.2 = 0) (fun p => .slice (p.1.map fun g => ⟨g, 0, none⟩) s.len p.2) (fun _ => H) (fun p => [.row (.slice (p.1.map fun g => ⟨g, 0, none⟩) s.len p.2) 79 (Enc.size Datum) s.len (encs s.els)])) := by
  refine T.enter (vs := [s.v]) (H := H) Tryz.func42 rfl rfl rfl hs ?_
  repeat (any_goals (first | refine T.seq ?_ | refine T.region ?_ | refine TL.nil ?_ | refine N.next ?_ | refine N.ret_then ?_ | refine T.ret ?_ | refine T.skip ?_ | (apply T.test; rfl; (exact isx); intro _; rotate_left; intro _; rotate_right) | (apply TL.val; rfl; rfl; (apply V.sliceNil; (iterate 4 rfl))) | (apply TL.x; rfl; rfl; (apply X.appendSlc 0 s; (iterate 10 rfl); exact hg; (refine Nat.le_trans (Nat.mul_le_mul_left _ (show _ ≤ 1000 by decide)) ?_; omega); omega); intro _ _) | (apply TL.val; rfl; rfl; (first | exact vpure | exact vread)) | (apply TL.x; rfl; rfl; (first | exact xgrow | exact xput); intro _ _)))
  · rename_i h
    have hl0 : s.len = 0 := by
      rcases Nat.eq_zero_or_pos s.len with h' | h'
      · exact h'
      · rw [hg.at_ h'] at h; cases h
    have hels : s.els = [] := List.eq_nil_of_length_eq_zero (by rw [hg.len]; exact hl0)
    apply N.ret1; rfl; (exact rvx)
    intro w1 hst
    refine ⟨(none, 0), fun _ => ⟨hl0, rfl⟩, by rw [hl0]; rfl, ?_⟩
    rw [hl0, hels]
    exact hst.nilRow _ _
  · rename_i v _
    apply N.ret1; rfl; (exact rvx)
    intro w1 hst
    obtain ⟨o, c, hv, h0⟩ := hst.rowShape (List.Mem.head _)
    rw [Nat.zero_add] at hv h0
    refine ⟨(o, c), h0, by rw [hv], ?_⟩
    have hst' := hst.sub (L' := [.row v 79 _ (0 + s.len) ([] ++ encs s.els)]) (by (first | exact List.Sublist.refl _ | exact List.nil_sublist _ | exact List.Sublist.cons _ (List.Sublist.refl _) | exact List.Sublist.cons _ (List.Sublist.cons _ (List.Sublist.refl _))))
    rw [Nat.zero_add, List.nil_append, hv] at hst'
    exact hst'
theorem c_CloneDatum (s : Slc Datum) (H : Hp) (w : World) (hs : Sat H w) (hg : s.Good H) (hb : s.len ≤ 1000) : Calls Tryz.prog 42 #[s.v] w (RetF w H (fun p : Hp × Slc Datum => p.2.els = s.els ∧ p.2.Good p.1) (fun p => p.2.v) (fun p => p.1)) := by
  refine Calls.mono (c_CloneDatumO s H w hs hg hb) fun e w' => ?_
  rintro ⟨p, h0, rfl, hst⟩
  obtain ⟨H', s', h1, h2, h3, h4, h5⟩ := hst.freezeRow rfl hg.len hg.els
  exact ⟨(H', s'), ⟨h2, h3⟩, congrArg Ending.returned h1.symm, h5.fresh⟩
theorem c_CloneSigO (s : Slc Sig) (H : Hp) (w : World) (hs : Sat H w) (hg : s.Good H) (hb : s.len ≤ 1000) : Calls Tryz.prog 43 #[s.v] w (RetO w H (fun p : Option Nat × Nat => p.1 = none → s.len = 0 ∧ p.2 = 0) (fun p => .slice (p.1.map fun g => ⟨g, 0, none⟩) s.len p.2) (fun _ => H) (fun p => [.row (.slice (p.1.map fun g => ⟨g, 0, none⟩) s.len p.2) 102 (Enc.size Sig) s.len (encs s.els)])) := by
  refine T.enter (vs := [s.v]) (H := H) Tryz.func43 rfl rfl rfl hs ?_
  repeat (any_goals (first | refine T.seq ?_ | refine T.region ?_ | refine TL.nil ?_ | refine N.next ?_ | refine N.ret_then ?_ | refine T.ret ?_ | refine T.skip ?_ | (apply T.test; rfl; (exact isx); intro _; rotate_left; intro _; rotate_right) | (apply TL.val; rfl; rfl; (apply V.sliceNil; (iterate 4 rfl))) | (apply TL.x; rfl; rfl; (apply X.appendSlc 0 s; (iterate 10 rfl); exact hg; (refine Nat.le_trans (Nat.mul_le_mul_left _ (show _ ≤ 1000 by decide)) ?_; omega); omega); intro _ _) | (apply TL.val; rfl; rfl; (first | exact vpure | exact vread)) | (apply TL.x; rfl; rfl; (first | exact xgrow | exact xput); intro _ _)))
  · rename_i h
    have hl0 : s.len = 0 := by
      rcases Nat.eq_zero_or_pos s.len with h' | h'
      · exact h'
      · rw [hg.at_ h'] at h; cases h
    have hels : s.els = [] := List.eq_nil_of_length_eq_zero (by rw [hg.len]; exact hl0)
    apply N.ret1; rfl; (exact rvx)
    intro w1 hst
    refine ⟨(none, 0), fun _ => ⟨hl0, rfl⟩, by rw [hl0]; rfl, ?_⟩
    rw [hl0, hels]
    exact hst.nilRow _ _
  · rename_i v _
    apply N.ret1; rfl; (exact rvx)
    intro w1 hst
    obtain ⟨o, c, hv, h0⟩ := hst.rowShape (List.Mem.head _)
    rw [Nat.zero_add] at hv h0
    refine ⟨(o, c), h0, by rw [hv], ?_⟩
    have hst' := hst.sub (L' := [.row v 102 _ (0 + s.len) ([] ++ encs s.els)]) (by (first | exact List.Sublist.refl _ | exact List.nil_sublist _ | exact List.Sublist.cons _ (List.Sublist.refl _) | exact List.Sublist.cons _ (List.Sublist.cons _ (List.Sublist.refl _))))
    rw [Nat.zero_add, List.nil_append, hv] at hst'
    exact hst'
theorem c_CloneSig (s : Slc Sig) (H : Hp) (w : World) (hs : Sat H w) (hg : s.Good H) (hb : s.len ≤ 1000) : Calls Tryz.prog 43 #[s.v] w (RetF w H (fun p : Hp × Slc Sig => p.2.els = s.els ∧ p.2.Good p.1) (fun p => p.2.v) (fun p => p.1)) := by
  refine Calls.mono (c_CloneSigO s H w hs hg hb) fun e w' => ?_
  rintro ⟨p, h0, rfl, hst⟩
  obtain ⟨H', s', h1, h2, h3, h4, h5⟩ := hst.freezeRow rfl hg.len hg.els
  exact ⟨(H', s'), ⟨h2, h3⟩, congrArg Ending.returned h1.symm, h5.fresh⟩
end Go.Proofs.YthabgdbhgcgemaaGreatDoor
namespace Go.Proofs.YthabgdbhgcgemaaGreatDoor
set_option linter.unusedVariables false
set_option linter.unusedSimpArgs false
open Go Go.RowKit
open Enc (enc)
structure HostV where
  name : List UInt8
  addr : Int
  owner : Int
deriving DecidableEq
instance : Enc HostV where
  size := 3
  enc h := [strV h.name, intV h.addr, intV h.owner]
  good _ h := LenOk h.name ∧ I64 h.addr ∧ I64 h.owner
  len _ := rfl
  mono _ h := h
  one _ := rfl
  pos := by decide
structure ZoneV where
  apex : List UInt8
  sets : Slc Signed
instance : Enc ZoneV where
  size := 2
  enc z := [strV z.apex, .slice z.sets.A z.sets.len z.sets.cap]
  good H z := LenOk z.apex ∧ z.sets.Good H
  len _ := rfl
  mono hle h := ⟨h.1, h.2.mono hle⟩
  one _ := rfl
  pos := by decide
structure CopyV where
  host : Int
  frm : Int
  til : Int
  zone : ZoneV
instance : Enc CopyV where
  size := 5
  enc c := [intV c.host, intV c.frm, intV c.til, strV c.zone.apex, .slice c.zone.sets.A c.zone.sets.len c.zone.sets.cap]
  good H c := I64 c.host ∧ I64 c.frm ∧ I64 c.til ∧ Enc.good H c.zone
  len _ := rfl
  mono hle h := ⟨h.1, h.2.1, h.2.2.1, Enc.mono hle h.2.2.2⟩
  one _ := rfl
  pos := by decide
structure HistV where
  hosts : Slc HostV
  copies : Slc CopyV
  anchor : RSet
  hints : Slc Int
  drift : Int
  fin : Int
instance : Enc HistV where
  size := 9
  enc h := [.slice h.hosts.A h.hosts.len h.hosts.cap, .slice h.copies.A h.copies.len h.copies.cap, strV h.anchor.name, intV h.anchor.typ, intV h.anchor.life, .slice h.anchor.data.A h.anchor.data.len h.anchor.data.cap, .slice h.hints.A h.hints.len h.hints.cap, intV h.drift, intV h.fin]
  good H h := h.hosts.Good H ∧ h.copies.Good H ∧ Enc.good H h.anchor ∧ h.hints.Good H ∧ I64 h.drift ∧ I64 h.fin
  len _ := rfl
  mono hle h := ⟨h.1.mono hle, h.2.1.mono hle, Enc.mono hle h.2.2.1, h.2.2.2.1.mono hle, h.2.2.2.2⟩
  one _ := rfl
  pos := by decide
end Go.Proofs.YthabgdbhgcgemaaGreatDoor
