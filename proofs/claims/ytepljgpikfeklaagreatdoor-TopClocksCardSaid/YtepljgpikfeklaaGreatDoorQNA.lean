import Derived.Test.YtepljgpikfeklaaGreatDoorQWB
import Derived.Test.YtepljgpikfeklaaGreatDoorQData
import Derived.Test.YtepljgpikfeklaaGreatDoorQTMap
import Derived.Test.YtepljgpikfeklaaGreatDoorQEngC
import Derived.Test.YtepljgpikfeklaaGreatDoorQEngR
import Derived.Test.YtepljgpikfeklaaGreatDoorQWA
namespace Go.Proofs.YtepljgpikfeklaaGreatDoor
set_option linter.unusedVariables false
set_option linter.unusedSimpArgs false
open Go Go.RowKit
set_option maxRecDepth 20000
theorem c_CloneDatumO (s : Slc Datum) (H : Hp) (w : World) (hs : Sat H w) (hg : s.Good H) (hb : s.len ≤ 1000) : Calls Tryz.prog 108 #[s.v] w (RetO w H (fun p : Option Nat × Nat => p.1 = none → s.len = 0 ∧ p.2 = 0) (fun p => .slice (p.1.map fun g => ⟨g, 0, none⟩) s.len p.2) (fun _ => H) (fun p => [.row (.slice (p.1.map fun g => ⟨g, 0, none⟩) s.len p.2) 101 (Enc.size Datum) s.len (encs s.els)])) := by
  refine T.enter (vs := [s.v]) (H := H) Tryz.func108 rfl rfl rfl hs ?_
  repeat (any_goals (first | refine T.seq ?_ | refine T.region ?_ | refine TL.nil ?_ | refine N.next ?_ | refine N.ret_then ?_ | refine T.ret ?_ | refine T.skip ?_ | (apply T.test; rfl; (exact isx); intro _; rotate_left; intro _; rotate_right) | (apply TL.val; rfl; rfl; (apply V.sliceNil; (iterate 4 rfl))) | (apply TL.x; rfl; rfl; (apply X.appendSlc 0 s; (iterate 10 rfl); exact hg; (refine Nat.le_trans (Nat.mul_le_mul_left _ (show _ ≤ 1000 by decide)) ?_; omega); omega); intro _ _) | (apply TL.val; rfl; rfl; (first | exact vpure | exact vread)) | (apply TL.x; rfl; rfl; (first | exact xgrow | exact xput); intro _ _)))
  · rename_i h
    have hl0 : s.len = 0 := by
      rcases Nat.eq_zero_or_pos s.len with h' | h'
      · exact h'
      · rw [hg.at_ h'] at h; cases h
    have hels : s.els = [] := List.eq_nil_of_length_eq_zero (by rw [hg.len]; exact hl0)
    apply N.ret1; rfl; (exact rvx)
    intro w1 hst
    refine ⟨(none, 0), fun _ => ⟨hl0, rfl⟩, by rw [hl0]; rfl, ?_⟩
    rw [hl0, hels]
    exact hst.nilRow _ _
  · rename_i v _
    apply N.ret1; rfl; (exact rvx)
    intro w1 hst
    obtain ⟨o, c, hv, h0⟩ := hst.rowShape (List.Mem.head _)
    rw [Nat.zero_add] at hv h0
    refine ⟨(o, c), h0, by rw [hv], ?_⟩
    have hst' := hst.sub (L' := [.row v 101 _ (0 + s.len) ([] ++ encs s.els)]) (by (first | exact List.Sublist.refl _ | exact List.nil_sublist _ | exact List.Sublist.cons _ (List.Sublist.refl _) | exact List.Sublist.cons _ (List.Sublist.cons _ (List.Sublist.refl _))))
    rw [Nat.zero_add, List.nil_append, hv] at hst'
    exact hst'
theorem c_CloneDatum (s : Slc Datum) (H : Hp) (w : World) (hs : Sat H w) (hg : s.Good H) (hb : s.len ≤ 1000) : Calls Tryz.prog 108 #[s.v] w (RetF w H (fun p : Hp × Slc Datum => p.2.els = s.els ∧ p.2.Good p.1) (fun p => p.2.v) (fun p => p.1)) := by
  refine Calls.mono (c_CloneDatumO s H w hs hg hb) fun e w' => ?_
  rintro ⟨p, h0, rfl, hst⟩
  obtain ⟨H', s', h1, h2, h3, h4, h5⟩ := hst.freezeRow rfl hg.len hg.els
  exact ⟨(H', s'), ⟨h2, h3⟩, congrArg Ending.returned h1.symm, h5.fresh⟩
theorem c_CloneSigO (s : Slc Sig) (H : Hp) (w : World) (hs : Sat H w) (hg : s.Good H) (hb : s.len ≤ 1000) : Calls Tryz.prog 109 #[s.v] w (RetO w H (fun p : Option Nat × Nat => p.1 = none → s.len = 0 ∧ p.2 = 0) (fun p => .slice (p.1.map fun g => ⟨g, 0, none⟩) s.len p.2) (fun _ => H) (fun p => [.row (.slice (p.1.map fun g => ⟨g, 0, none⟩) s.len p.2) 79 (Enc.size Sig) s.len (encs s.els)])) := by
  refine T.enter (vs := [s.v]) (H := H) Tryz.func109 rfl rfl rfl hs ?_
  repeat (any_goals (first | refine T.seq ?_ | refine T.region ?_ | refine TL.nil ?_ | refine N.next ?_ | refine N.ret_then ?_ | refine T.ret ?_ | refine T.skip ?_ | (apply T.test; rfl; (exact isx); intro _; rotate_left; intro _; rotate_right) | (apply TL.val; rfl; rfl; (apply V.sliceNil; (iterate 4 rfl))) | (apply TL.x; rfl; rfl; (apply X.appendSlc 0 s; (iterate 10 rfl); exact hg; (refine Nat.le_trans (Nat.mul_le_mul_left _ (show _ ≤ 1000 by decide)) ?_; omega); omega); intro _ _) | (apply TL.val; rfl; rfl; (first | exact vpure | exact vread)) | (apply TL.x; rfl; rfl; (first | exact xgrow | exact xput); intro _ _)))
  · rename_i h
    have hl0 : s.len = 0 := by
      rcases Nat.eq_zero_or_pos s.len with h' | h'
      · exact h'
      · rw [hg.at_ h'] at h; cases h
    have hels : s.els = [] := List.eq_nil_of_length_eq_zero (by rw [hg.len]; exact hl0)
    apply N.ret1; rfl; (exact rvx)
    intro w1 hst
    refine ⟨(none, 0), fun _ => ⟨hl0, rfl⟩, by rw [hl0]; rfl, ?_⟩
    rw [hl0, hels]
    exact hst.nilRow _ _
  · rename_i v _
    apply N.ret1; rfl; (exact rvx)
    intro w1 hst
    obtain ⟨o, c, hv, h0⟩ := hst.rowShape (List.Mem.head _)
    rw [Nat.zero_add] at hv h0
    refine ⟨(o, c), h0, by rw [hv], ?_⟩
    have hst' := hst.sub (L' := [.row v 79 _ (0 + s.len) ([] ++ encs s.els)]) (by (first | exact List.Sublist.refl _ | exact List.nil_sublist _ | exact List.Sublist.cons _ (List.Sublist.refl _) | exact List.Sublist.cons _ (List.Sublist.cons _ (List.Sublist.refl _))))
    rw [Nat.zero_add, List.nil_append, hv] at hst'
    exact hst'
theorem c_CloneSig (s : Slc Sig) (H : Hp) (w : World) (hs : Sat H w) (hg : s.Good H) (hb : s.len ≤ 1000) : Calls Tryz.prog 109 #[s.v] w (RetF w H (fun p : Hp × Slc Sig => p.2.els = s.els ∧ p.2.Good p.1) (fun p => p.2.v) (fun p => p.1)) := by
  refine Calls.mono (c_CloneSigO s H w hs hg hb) fun e w' => ?_
  rintro ⟨p, h0, rfl, hst⟩
  obtain ⟨H', s', h1, h2, h3, h4, h5⟩ := hst.freezeRow rfl hg.len hg.els
  exact ⟨(H', s'), ⟨h2, h3⟩, congrArg Ending.returned h1.symm, h5.fresh⟩
end Go.Proofs.YtepljgpikfeklaaGreatDoor
namespace Go.Proofs.YtepljgpikfeklaaGreatDoor
set_option linter.unusedVariables false
set_option linter.unusedSimpArgs false
open Go Go.RowKit
open Enc (enc)
structure HostV where
  name : List UInt8
  addr : Int
  owner : Int
deriving DecidableEq
instance : Enc HostV where
  size := 3
  enc h := [strV h.name, intV h.addr, intV h.owner]
  good _ h := LenOk h.name ∧ I64 h.addr ∧ I64 h.owner
  len _ := rfl
  mono _ h := h
  one _ := rfl
  pos := by decide
structure ZoneV where
  apex : List UInt8
  sets : Slc Signed
instance : Enc ZoneV where
  size := 2
  enc z := [strV z.apex, .slice z.sets.A z.sets.len z.sets.cap]
  good H z := LenOk z.apex ∧ z.sets.Good H
  len _ := rfl
  mono hle h := ⟨h.1, h.2.mono hle⟩
  one _ := rfl
  pos := by decide
structure CopyV where
  host : Int
  frm : Int
  til : Int
  zone : ZoneV
instance : Enc CopyV where
  size := 5
  enc c := [intV c.host, intV c.frm, intV c.til, strV c.zone.apex, .slice c.zone.sets.A c.zone.sets.len c.zone.sets.cap]
  good H c := I64 c.host ∧ I64 c.frm ∧ I64 c.til ∧ Enc.good H c.zone
  len _ := rfl
  mono hle h := ⟨h.1, h.2.1, h.2.2.1, Enc.mono hle h.2.2.2⟩
  one _ := rfl
  pos := by decide
structure HistV where
  hosts : Slc HostV
  copies : Slc CopyV
  anchor : RSet
  hints : Slc Int
  drift : Int
  fin : Int
instance : Enc HistV where
  size := 9
  enc h := [.slice h.hosts.A h.hosts.len h.hosts.cap, .slice h.copies.A h.copies.len h.copies.cap, strV h.anchor.name, intV h.anchor.typ, intV h.anchor.life, .slice h.anchor.data.A h.anchor.data.len h.anchor.data.cap, .slice h.hints.A h.hints.len h.hints.cap, intV h.drift, intV h.fin]
  good H h := h.hosts.Good H ∧ h.copies.Good H ∧ Enc.good H h.anchor ∧ h.hints.Good H ∧ I64 h.drift ∧ I64 h.fin
  len _ := rfl
  mono hle h := ⟨h.1.mono hle, h.2.1.mono hle, Enc.mono hle h.2.2.1, h.2.2.2.1.mono hle, h.2.2.2.2⟩
  one _ := rfl
  pos := by decide
end Go.Proofs.YtepljgpikfeklaaGreatDoor
namespace Go.Proofs.YtepljgpikfeklaaGreatDoor
set_option linter.unusedVariables false
set_option linter.unusedSimpArgs false
open Go
open Enc (enc)
structure Entry where
  signed : Signed
  zone : Bytes
  til : Int
instance : Enc Entry where
  size := 7
  enc e := [strV e.signed.set.name, intV e.signed.set.typ, intV e.signed.set.life, .slice e.signed.set.data.A e.signed.set.data.len e.signed.set.data.cap, .slice e.signed.sigs.A e.signed.sigs.len e.signed.sigs.cap, strV e.zone, intV e.til]
  good H e := Enc.good H e.signed ∧ LenOk e.zone ∧ I64 e.til
  len _ := rfl
  mono hle h := ⟨Enc.mono hle h.1, h.2⟩
  one _ := rfl
  pos := by decide
def Entry.c (e : Entry) : EntryC := ⟨e.signed.c, e.zone, e.til⟩
end Go.Proofs.YtepljgpikfeklaaGreatDoor
namespace Go.Proofs.YtepljgpikfeklaaGreatDoor
set_option linter.unusedVariables false
set_option linter.unusedSimpArgs false
open Go Go.RowKit
open Enc (enc)
set_option maxRecDepth 20000
theorem c_HasSuffix0 (l p : Bytes) (H : Hp) (w : World) (hs : Sat H w) (hl : LenOk l) (hp : LenOk p) : Calls Tryz.prog 146 #[strV l, strV p] w (Ret w (.bool (decide (p <:+ l)))) := by
  have hl' : l.length ≤ 9223372036854775807 := hl
  have hp' : p.length ≤ 9223372036854775807 := hp
  refine T.enter (vs := [strV l, strV p]) (H := H) Tryz.func146 rfl rfl rfl hs ?_
  repeat (any_goals (first | refine T.seq ?_ | refine T.region ?_ | refine TL.nil ?_ | refine N.next ?_ | refine T.ret ?_ | (apply TL.skip; rfl; rfl; rfl) | (apply TL.val; rfl; rfl; (first | exact vpure | exact vread)) | (apply TL.guard; rfl; rfl; rfl; (exact isx); intro _; rotate_left; intro _; rotate_right)))
  all_goals (try (first | (apply N.ret_bool; rfl; (exact rvx)) | (apply N.ret_int; rfl; (exact rvx)) | (apply N.ret_val; rfl; (exact rvx))))
  · have e : ((l.length : Int) - p.length).toNat = l.length - p.length := by omega
    rw [e]
    exact decide_eq_decide.2 (eq_comm.trans List.suffix_iff_eq_drop.symm)
  · rename_i h
    refine (decide_eq_false fun e => h ?_).symm
    have := e.length_le
    omega
theorem c_HasSuffix (l p : Bytes) (H : Hp) (w : World) (hs : Sat H w) (hl : LenOk l) (hp : LenOk p) : Calls Tryz.prog 105 #[strV l, strV p] w (Ret w (.bool (decide (p <:+ l)))) := by
  refine T.enter (vs := [strV l, strV p]) (H := H) Tryz.func105 rfl rfl rfl hs ?_
  repeat (any_goals (first | refine T.seq ?_ | refine T.region ?_ | refine TL.nil ?_ | refine N.next ?_ | refine T.ret ?_ | (apply TL.call0 (f := 146) Tryz.call146; rfl; rfl; rfl; (exact fun _ hs => c_HasSuffix0 _ _ _ _ hs.sat hl hp)) | (apply TL.val; rfl; rfl; (first | exact vpure | exact vread))))
  all_goals (try (first | (apply N.ret_bool; rfl; (exact rvx)) | (apply N.ret_int; rfl; (exact rvx)) | (apply N.ret_val; rfl; (exact rvx))))
  rfl
theorem N.ret_two {m : Nat} {P : Program} {w0 : World} {H0 H : Hp} {L : List Loc} {env : List (Nat × Value)} {ro : Option Nat} {fn : Func} {r s : ResultVar} {v u : Value} {x : Value} (hr : fn.results = #[r, s]) (h1 : RV P ⟨m, [], ro⟩ w0 H0 env H L r v) (h2 : RV P ⟨m, [], ro⟩ w0 H0 env H L s u) (he : .tuple #[v, u] = x) : N ⟨m, [], ro⟩ w0 H0 (bodyPost P fn (Ret w0 x)) .ret env H L :=
  N.ret2 hr h1 h2 fun _ hs => ⟨by rw [he], hs.below⟩
def underC (s z : Bytes) : Bool × Int := if nameOK s = true ∧ nameOK z = true then (underB s z, 0) else (false, 11)
theorem underC_val {l p : Bytes} {b : Bool} {e : Int} (h : underC l p = (b, e)) : Value.tuple #[.bool b, intV e] = .tuple #[.bool (underC l p).1, intV (underC l p).2] := by rw [h]
theorem c_Under (l p : Bytes) (H : Hp) (w : World) (hs : Sat H w) (hl : LenOk l) (hp : LenOk p) : Calls Tryz.prog 56 #[strV l, strV p] w (Ret w (.tuple #[.bool (underC l p).1, intV (underC l p).2])) := by
  have hl' : l.length ≤ 9223372036854775807 := hl
  have hp' : p.length ≤ 9223372036854775807 := hp
  refine T.enter (vs := [strV l, strV p]) (H := H) Tryz.func56 rfl rfl rfl hs ?_
  repeat (any_goals (first | refine T.seq ?_ | refine T.region ?_ | refine TL.nil ?_ | refine N.next ?_ | refine N.ret_then ?_ | refine T.ret ?_ | refine T.skip ?_ | (apply T.cond_true; rfl) | (apply T.test; rfl; (exact isx); intro _; rotate_left; intro _; rotate_right) | (apply TL.skip; rfl; rfl; rfl) | (apply TL.call0 (f := 99) Tryz.call99; rfl; rfl; rfl; (exact fun _ hs => c_textValid _ _ _ hs.sat (by assumption))) | (apply TL.call0 (f := 105) Tryz.call105; rfl; rfl; rfl; (exact fun _ hs => c_HasSuffix _ _ _ _ hs.sat hl hp)) | (apply TL.val; rfl; rfl; (first | exact vpure | exact vread)) | (apply TL.guard; rfl; rfl; rfl; (exact isx); intro _; rotate_left; intro _; rotate_right)))
  all_goals (apply N.ret_two rfl (by (exact rvx)) (by (exact rvx)))
  all_goals refine underC_val ?_
  all_goals (try (have hh : ¬ p.length < l.length := by omega))
  all_goals (try (have hh : p.length < l.length := by omega))
  all_goals unfold underC underB
  all_goals (try (simp [*]; done))
  all_goals rw [if_pos ⟨by assumption, by assumption⟩]
  all_goals first
    | (rw [decide_eq_true (show p = [46] by assumption), Bool.or_true, Bool.true_or]; done)
    | (rw [decide_eq_false (show ¬ l = p by assumption), decide_eq_false (show ¬ p = [46] by assumption), decide_eq_true hh, decide_eq_true (show p <:+ l by assumption), show ((l.length : Int) - p.length - 1).toNat = l.length - p.length - 1 by omega]
       refine congrArg (fun b => (b, (0 : Int))) ?_
       simp only [Bool.false_or, Bool.true_and]
       exact decide_eq_decide.2 ⟨fun h => by rw [h]; rfl, fun h => UInt8.toNat_inj.1 (by show _ = 46; omega)⟩)
    | trace_state
end Go.Proofs.YtepljgpikfeklaaGreatDoor
namespace Go.Proofs.YtepljgpikfeklaaGreatDoor
set_option linter.unusedVariables false
set_option linter.unusedSimpArgs false
open Go Go.RowKit
open Enc (enc)
set_option maxRecDepth 20000
theorem c_Parts (l : Bytes) (H : Hp) (w : World) (hs : Sat H w) (hl : l.length ≤ 1000000) : Calls Tryz.prog 85 #[strV l] w (RetF w H (fun p : Hp × Slc Bytes => p.2.els = parts l ∧ p.2.Good p.1) (fun p => p.2.v) (fun p => p.1)) := by
  refine T.enter (vs := [strV l]) (H := H) Tryz.func85 rfl rfl rfl hs ?_
  repeat (any_goals (first | refine T.seq ?_ | refine T.region ?_ | refine TL.nil ?_ | refine N.next ?_ | refine N.ret_then ?_ | refine T.ret ?_ | refine T.skip ?_ | (apply T.test; rfl; (exact isx); intro _; rotate_left; intro _; rotate_right) | (apply TL.x; rfl; rfl; (apply X.callF0 (f := 83) Tryz.call83; rfl; rfl; (exact fun _ hs => c_Split _ _ _ hs.sat hl)); intro _ _) | (apply TL.val; rfl; rfl; (first | exact vpure | exact vread))))
  · rename_i h
    refine N.ret1 rfl (by (exact rvx)) fun w1 hs1 => ⟨(H, Slc.nil _), ⟨by unfold parts; rw [if_pos h]; rfl, Slc.nil_good⟩, rfl, hs1.fresh⟩
  · rename_i h p hp
    refine N.ret1 rfl (by (exact rvx)) fun w1 hs1 => ⟨p, ⟨by unfold parts; rw [if_neg h]; exact hp.1.1, hp.1.2⟩, rfl, hs1.fresh⟩
theorem suffix_at {α : Type} {d : α} {a b : List α} (h : b.length ≤ a.length) : (b <:+ a) ↔ ∀ j, j < b.length → a.getD (a.length - b.length + j) d = b.getD j d := by
  rw [List.suffix_iff_eq_drop]
  constructor
  · intro e j hj
    have := congrArg (fun x : List α => x[j]?) e
    simp only [List.getElem?_drop] at this
    rw [List.getD_eq_getElem?_getD, List.getD_eq_getElem?_getD, this]
  · intro e
    refine List.ext_getElem (by rw [List.length_drop]; omega) fun j h1 h2 => ?_
    have := e j h1
    rw [List.getElem_drop]
    rw [List.getD_eq_getElem?_getD, List.getD_eq_getElem?_getD, List.getElem?_eq_getElem h1, List.getElem?_eq_getElem (by omega)] at this
    exact this.symm
set_option maxHeartbeats 1000000 in
theorem c_In (l z : Bytes) (H : Hp) (w : World) (hs : Sat H w) (hl : l.length ≤ 1000000) (hz : z.length ≤ 1000000) : Calls Tryz.prog 91 #[strV l, strV z] w (Ret w (.bool (inN l z))) := by
  refine T.enter (vs := [strV l, strV z]) (H := H) Tryz.func91 rfl rfl rfl hs ?_
  repeat (any_goals (first | refine T.seq ?_ | refine T.region ?_ | refine TL.nil ?_ | refine N.next ?_ | refine N.ret_then ?_ | refine T.ret ?_ | refine T.skip ?_ | refine T.block ?_ | (apply T.test; rfl; (exact isx); intro _; rotate_left; intro _; rotate_right) | (apply TL.x; rfl; rfl; (apply X.callF0 (f := 85) Tryz.call85; rfl; rfl; (exact fun _ hs => c_Parts _ _ _ hs.sat (by assumption))); intro _ _) | (apply TL.val; rfl; rfl; (first | exact vpure | exact vread))))
  all_goals (try (first | (apply N.ret_bool; rfl; (exact rvx)) | (apply N.ret_int; rfl; (exact rvx)) | (apply N.ret_val; rfl; (exact rvx))))
  · rename_i p1 hp1 p2 hp2 h
    refine (decide_eq_false fun e => ?_).symm
    have := e.length_le
    rw [← hp1.1.1, ← hp2.1.1, hp1.1.2.len, hp2.1.2.len] at this
    omega
  · rename_i p1 hp1 p2 hp2 h
    obtain ⟨H1, s⟩ := p1
    obtain ⟨⟨hsl, hsg⟩, hle1⟩ := hp1
    obtain ⟨H2, t⟩ := p2
    obtain ⟨⟨htl, htg⟩, hle2⟩ := hp2
    simp only at hsl hsg hle1 htl htg hle2 h ⊢
    have hsg := hsg.mono hle2
    have hslen := hsg.len
    have htlen := htg.len
    have hslim := hsg.lim
    have hiff := suffix_at (d := ([] : Bytes)) (a := s.els) (b := t.els) (by omega)
    rw [hslen, htlen] at hiff
    have hin : inN l z = decide (t.els <:+ s.els) := by unfold inN; rw [hsl, htl]
    refine T.loop (G := Nat) (fun k => [(5, s.v), (6, t.v), (7, intV k)]) (fun _ => H2) (fun _ => []) (fun k => k ≤ t.len ∧ ∀ j, j < k → s.els.getD (s.len - t.len + j) [] = t.els.getD j []) (fun k => t.len - k) 0 ⟨Nat.zero_le _, fun j h => by omega⟩ (by (repeat (first | exact True.intro | refine ⟨rfl, ?_⟩ | refine Sub.int rfl (by omega) ?_))) rfl (by (first | exact List.Sublist.refl _ | exact List.nil_sublist _ | exact List.Sublist.cons _ (List.Sublist.refl _) | exact List.Sublist.cons _ (List.Sublist.cons _ (List.Sublist.refl _)))) ?_
    rintro k ⟨hk, hrel⟩
    have e1 : ((s.len : Int) - t.len + k).toNat = s.len - t.len + k := by omega
    repeat (any_goals (first | refine T.seq ?_ | refine T.region ?_ | (apply T.regionD wide; rfl) | refine TL.nil ?_ | refine N.next ?_ | refine N.inBlock ?_ | refine N.exit_same ?_ | refine N.exit_then ?_ | refine N.ret_then ?_ | refine N.ret_block ?_ | refine T.ret ?_ | refine T.skip ?_ | refine T.exit ?_ | refine T.block ?_ | (apply T.test; rfl; (exact isx); intro _; rotate_left; intro _; rotate_right) | (apply TL.val; rfl; rfl; (first | exact vpure | exact vread)) | (apply GT.pure; (iterate 4 rfl); (first | exact vpure); decide +kernel) | (apply GT.read; (iterate 4 rfl); (first | exact vpure | exact vread); decide +kernel) | (apply GT.done; decide +kernel; apply N.ofQ)))
    · rename_i hk1 hne
      refine N.ret_bool rfl (by (exact rvx)) ?_
      rw [hin]
      refine (decide_eq_false fun e => hne ?_).symm
      have := hiff.1 e k (by omega)
      rw [List.getD_eq_getElem?_getD, List.getD_eq_getElem?_getD, List.getElem?_eq_getElem (by omega), List.getElem?_eq_getElem (by omega)] at this
      simpa [e1] using this
    · rename_i hk1 heq
      refine N.round (k + 1) ⟨by omega, fun j hj => ?_⟩ (by show t.len - (k + 1) < t.len - k; omega) (by (repeat (first | exact True.intro | refine ⟨rfl, ?_⟩ | refine Sub.int rfl (by omega) ?_))) rfl (by (first | exact List.Sublist.refl _ | exact List.nil_sublist _ | exact List.Sublist.cons _ (List.Sublist.refl _) | exact List.Sublist.cons _ (List.Sublist.cons _ (List.Sublist.refl _))))
      by_cases hjk : j = k
      · subst hjk
        rw [List.getD_eq_getElem?_getD, List.getD_eq_getElem?_getD, List.getElem?_eq_getElem (by omega), List.getElem?_eq_getElem (by omega)]
        simpa [e1] using heq
      · exact hrel j (by omega)
    · refine N.ret_bool rfl (by (exact rvx)) ?_
      rw [hin]
      exact (decide_eq_true (hiff.2 fun j hj => hrel j (by omega))).symm
def wildN (l : Bytes) : Bool := decide ((parts l)[0]? = some [42])
theorem c_Wild01 (l : Bytes) (H : Hp) (w : World) (hs : Sat H w) (hl : l.length ≤ 1000000) : Calls Tryz.prog 40 #[strV l] w (Ret w (.bool (wildN l))) := by
  refine T.enter (vs := [strV l]) (H := H) Tryz.func40 rfl rfl rfl hs ?_
  repeat (any_goals (first | refine T.seq ?_ | refine T.region ?_ | refine TL.nil ?_ | refine N.next ?_ | refine T.ret ?_ | (apply TL.skip; rfl; rfl; rfl) | (apply TL.x; rfl; rfl; (apply X.callF0 (f := 85) Tryz.call85; rfl; rfl; (exact fun _ hs => c_Parts _ _ _ hs.sat (by assumption))); intro _ _) | (apply TL.val; rfl; rfl; (first | exact vpure | exact vread)) | (apply TL.guard; rfl; rfl; rfl; (exact isx); intro _; rotate_left; intro _; rotate_right)))
  all_goals (try (first | (apply N.ret_bool; rfl; (exact rvx)) | (apply N.ret_int; rfl; (exact rvx)) | (apply N.ret_val; rfl; (exact rvx))))
  · rename_i p hp h
    have hl0 := hp.1.2.len
    have hsg := hp.1.2
    have hpos : 0 < p.2.len := by omega
    repeat (any_goals (first | refine TL.nil ?_ | refine N.next ?_ | refine T.ret ?_ | (apply TL.val; rfl; rfl; (first | exact vpure | exact vread))))
    all_goals (try (first | (apply N.ret_bool; rfl; (exact rvx)) | (apply N.ret_int; rfl; (exact rvx)) | (apply N.ret_val; rfl; (exact rvx))))
    unfold wildN
    rw [← hp.1.1, List.getElem?_eq_getElem (by omega)]
    exact decide_eq_decide.2 ⟨fun e => congrArg some e, fun e => Option.some.inj e⟩
  · rename_i p hp h
    have hl0 := hp.1.2.len
    unfold wildN
    rw [← hp.1.1, List.getElem?_eq_none (by omega)]
    rfl
end Go.Proofs.YtepljgpikfeklaaGreatDoor
namespace Go.Proofs.YtepljgpikfeklaaGreatDoor
set_option linter.unusedVariables false
set_option linter.unusedSimpArgs false
open Go Go.RowKit
open Enc (enc)
set_option maxRecDepth 20000
theorem c_ctime (x : Int) (H : Hp) (w : World) (hs : Sat H w) : Calls Tryz.prog 28 #[intV x] w (Ret w (.bool (decide (0 ≤ x ∧ x ≤ 20000000)))) := by
  refine T.enter (vs := [intV x]) (H := H) Tryz.func28 rfl rfl rfl hs ?_
  repeat (any_goals (first | refine T.seq ?_ | refine T.region ?_ | refine TL.nil ?_ | refine N.next ?_ | refine T.ret ?_ | (apply TL.skip; rfl; rfl; rfl) | (apply TL.val; rfl; rfl; (first | exact vpure | exact vread)) | (apply TL.guard; rfl; rfl; rfl; (exact isx); intro _; rotate_left; intro _; rotate_right)))
  all_goals (try (first | (apply N.ret_bool; rfl; (exact rvx)) | (apply N.ret_int; rfl; (exact rvx)) | (apply N.ret_val; rfl; (exact rvx))))
  all_goals (first | rfl | (rw [Bool.eq_iff_iff]; simp only [decide_eq_true_eq, Bool.false_eq_true, Bool.true_eq_false, true_iff, false_iff, iff_true, iff_false]; omega))
theorem c_clife (x : Int) (H : Hp) (w : World) (hs : Sat H w) : Calls Tryz.prog 98 #[intV x] w (Ret w (.bool (decide (0 ≤ x ∧ x ≤ 100000)))) := by
  refine T.enter (vs := [intV x]) (H := H) Tryz.func98 rfl rfl rfl hs ?_
  repeat (any_goals (first | refine T.seq ?_ | refine T.region ?_ | refine TL.nil ?_ | refine N.next ?_ | refine T.ret ?_ | (apply TL.skip; rfl; rfl; rfl) | (apply TL.val; rfl; rfl; (first | exact vpure | exact vread)) | (apply TL.guard; rfl; rfl; rfl; (exact isx); intro _; rotate_left; intro _; rotate_right)))
  all_goals (try (first | (apply N.ret_bool; rfl; (exact rvx)) | (apply N.ret_int; rfl; (exact rvx)) | (apply N.ret_val; rfl; (exact rvx))))
  all_goals (first | rfl | (rw [Bool.eq_iff_iff]; simp only [decide_eq_true_eq, Bool.false_eq_true, Bool.true_eq_false, true_iff, false_iff, iff_true, iff_false]; omega))
theorem wildN_star (l : Bytes) : wildN l = starN l := by unfold wildN starN; rw [List.head?_eq_getElem?]
theorem c_cquestion (q : Question) (H : Hp) (w : World) (hs : Sat H w) (hg : Enc.good H q) : Calls Tryz.prog 123 #[.agg (enc q).toArray] w (Ret w (.bool (questionOK q))) := by
  refine T.enter (vs := [.agg (enc q).toArray]) (H := H) Tryz.func123 rfl rfl rfl hs ?_
  repeat (any_goals (first | refine T.seq ?_ | refine T.region ?_ | refine TL.nil ?_ | refine N.next ?_ | refine T.ret ?_ | (apply TL.skip; rfl; rfl; rfl) | (apply TL.call0 (f := 50) Tryz.call50; rfl; rfl; rfl; (exact fun _ hs => c_nameValid _ _ _ hs.sat hg.1)) | (apply TL.val; rfl; rfl; (first | exact vpure | exact vread)) | (apply TL.x; rfl; rfl; (first | exact xgrow | exact xput); intro _ _) | (apply TL.guard; rfl; rfl; rfl; (exact isx); intro _; rotate_left; intro _; rotate_right)))
  all_goals (try (first | (apply N.ret_bool; rfl; (exact rvx)) | (apply N.ret_int; rfl; (exact rvx)) | (apply N.ret_val; rfl; (exact rvx))))
  all_goals (unfold questionOK; simp [*])
end Go.Proofs.YtepljgpikfeklaaGreatDoor
namespace Go.Proofs.YtepljgpikfeklaaGreatDoor
set_option linter.unusedVariables false
set_option linter.unusedSimpArgs false
open Go Go.RowKit
open Enc (enc)
set_option maxRecDepth 20000
def keyV (k : Bytes × Int × Bytes) : Value := .agg #[strV k.1, intV k.2.1, strV k.2.2]
theorem c_keyOf (e : Entry) (H : Hp) (w : World) (hs : Sat H w) (hg : Enc.good H e) : Calls Tryz.prog 49 #[.agg (enc e).toArray] w (Ret w (keyV (keyC e.c))) := by
  refine T.enter (vs := [.agg (enc e).toArray]) (H := H) Tryz.func49 rfl rfl rfl hs ?_
  repeat (any_goals (first | refine T.seq ?_ | refine T.region ?_ | refine TL.nil ?_ | refine N.next ?_ | refine T.ret ?_ | (apply TL.val; rfl; rfl; (apply V.build; (iterate 6 rfl))) | (apply TL.x; rfl; rfl; (apply X.storeTo 0 [strV e.signed.set.name, intV e.signed.set.typ, strV e.zone]; (iterate 10 rfl)); intro _ _) | (apply TL.val; rfl; rfl; (first | exact vpure | exact vread)) | (apply TL.x; rfl; rfl; (first | exact xgrow | exact xput); intro _ _)))
  all_goals (try (first | (apply N.ret_bool; rfl; (exact rvx)) | (apply N.ret_int; rfl; (exact rvx)) | (apply N.ret_val; rfl; (exact rvx))))
  all_goals rfl
end Go.Proofs.YtepljgpikfeklaaGreatDoor
