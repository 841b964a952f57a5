/- Walks: the sets of the example of nameplantop (r14Set, r14Text). -/
import Derived.Test.YtpnoabbdcakjkaaGreatDoorQTF
import Derived.Test.YtpnoabbdcakjkaaGreatDoorQTR
import Derived.Test.YtpnoabbdcakjkaaGreatDoorQTN
import Derived.Test.YtpnoabbdcakjkaaGreatDoorQQC
import Derived.Test.YtpnoabbdcakjkaaGreatDoorQTMap
import Derived.Test.YtpnoabbdcakjkaaGreatDoorQTH
namespace Go.Proofs.YtpnoabbdcakjkaaGreatDoor
set_option linter.unusedVariables false
set_option linter.unusedSimpArgs false
open Go Go.RowKit
open Enc (enc)
set_option maxRecDepth 20000
def tSet (s : Bytes) (t : Int) (d : Datum) : SetC := ⟨s, t, 20, [d]⟩
set_option maxHeartbeats 2000000 in
theorem c_r14SetS (s : Bytes) (t : Int) (d : Datum) (zone : Bytes) (n : Int) {r : Sig} (hr : signC (tSet s t d) zone ⟨n, 1⟩ 0 1000 = (r, 0)) (hn0 : 0 < n) {H : Hp} {w : World} (hs : Sat H w) (hR : Rules H) (hsl : LenOk s) (ht : I64 t) (hd : Enc.good H d) (hz : LenOk zone) (hn : I64 n) : Calls Tryz.prog 15 #[strV s, intV t, .agg (enc d).toArray, strV zone, intV n] w
    (RetF w H (fun p : Hp × Signed => p.2.c = ⟨tSet s t d, [r]⟩ ∧ Enc.good p.1 p.2) (fun p => .agg (enc p.2).toArray) (fun p => p.1)) := by
  refine T.enter (vs := [strV s, intV t, .agg (enc d).toArray, strV zone, intV n]) (H := H) Tryz.func15 rfl rfl rfl hs ?_
  have hkg : Enc.good H (⟨n, 1⟩ : KeyC) := ⟨hn, (show I64 1 by decide)⟩
  have hrg : ∀ H' : Hp, Enc.good H' r := fun H' => sign_good hr.symm hz (show Enc.good H' (⟨n, 1⟩ : KeyC) from hkg) (by decide) (by decide)
  have hS : ∀ {b : Nat} {H' : Hp} {w : World}, Rules H' → Enc.good H' (⟨s, t, 20, ⟨some ⟨b, 0, none⟩, 1, 1, [d]⟩⟩ : RSet) → Sat H' w → Calls Tryz.prog 44 #[.agg (enc (⟨s, t, 20, ⟨some ⟨b, 0, none⟩, 1, 1, [d]⟩⟩ : RSet)).toArray, strV zone, .agg (enc (⟨n, 1⟩ : KeyC)).toArray, intV 0, intV 1000] w (Ret w (.tuple #[.agg (enc r).toArray, intV 0])) := fun hR hx hs => by
    have := c_Sign _ zone ⟨n, 1⟩ 0 1000 _ _ hs hR hx hz (show Enc.good _ (⟨n, 1⟩ : KeyC) from hkg) (by decide) (by decide)
    rw [show (⟨s, t, 20, ⟨some ⟨_, 0, none⟩, 1, 1, [d]⟩⟩ : RSet).c = tSet s t d from rfl, hr] at this
    exact this
  repeat (any_goals (first | refine T.seq ?_ | refine T.region ?_ | refine TL.nil ?_ | refine N.next ?_ | refine N.inBlock ?_ | refine N.exit_same ?_ | refine N.exit_then ?_ | refine N.ret_then ?_ | refine N.ret_block ?_ | (apply N.exit_other; rfl) | refine T.ret ?_ | refine T.skip ?_ | refine T.exit ?_ | refine T.block ?_ | (apply T.cond_true; rfl) | (apply T.cond_false; rfl) | (apply T.test; rfl; (exact isx); intro _; rotate_left; intro _; rotate_right) | (apply TL.skip; rfl; rfl; rfl) | (apply TL.skip_none; rfl; rfl) | (apply TL.x; rfl; rfl; (apply X.box (d := 7); rfl; rfl; rfl); intro b7 _) | (apply TL.x; rfl; rfl; (apply X.alloc (d := 10); rfl; rfl; rfl); intro b10 _) | (apply TL.x; rfl; rfl; (apply X.buildSlice1 (d := 17); (iterate 8 rfl)); intro b17 _; apply TL.frzBlk 0 (els := [d]) (m := 1) rfl rfl rfl (by decide) (by intro x hx; simp at hx; rw [hx]; exact hd); intro H2 hn2 hle2; have hx : Enc.good H2 (⟨s, t, 20, ⟨some ⟨b17, 0, none⟩, 1, 1, [d]⟩⟩ : RSet) := ⟨hsl, ht, (show I64 20 by decide), hn2⟩) | (apply TL.val; rfl; rfl; (apply V.build; (iterate 6 rfl))) | (apply TL.x; rfl; rfl; (apply X.alloc (d := 11); rfl; rfl; rfl); intro b11 _) | (apply TL.x; rfl; rfl; (apply X.alloc (d := 12); rfl; rfl; rfl); intro b12 _) | (apply TL.x; rfl; rfl; (apply X.storeTo 0 (enc (⟨⟨s, t, 20, ⟨some ⟨b17, 0, none⟩, 1, 1, [d]⟩⟩, Slc.nil _⟩ : Signed)); (iterate 10 rfl)); intro _ _) | (apply TL.callE (f := 44) [.agg (enc (⟨s, t, 20, ⟨some ⟨b17, 0, none⟩, 1, 1, [d]⟩⟩ : RSet)).toArray, strV zone, .agg (enc (⟨n, 1⟩ : KeyC)).toArray, intV 0, intV 1000] Tryz.call44; (iterate 4 rfl); (exact fun _ hs => hS (Rules.mono hle2 hR) hx hs.sat)) | (apply TL.x; rfl; rfl; (apply X.storeTo 0 (enc r); (iterate 10 rfl)); intro _ _) | (apply TL.x; rfl; rfl; (apply X.buildSlice1 (d := 36); (iterate 8 rfl)); intro b36 _; apply TL.frzBlk 0 (els := [r]) (m := 1) rfl rfl rfl (by decide) (by intro x hx; simp at hx; rw [hx]; exact hrg _); intro H3 hn3 hle3) | (apply TL.x; rfl; rfl; (apply X.storeTo 1 (enc (⟨⟨s, t, 20, ⟨some ⟨b17, 0, none⟩, 1, 1, [d]⟩⟩, ⟨some ⟨b36, 0, none⟩, 1, 1, [r]⟩⟩ : Signed)); (iterate 10 rfl)); intro _ _) | (apply TL.x; rfl; rfl; (apply X.storeTo 2 (enc (⟨⟨s, t, 20, ⟨some ⟨b17, 0, none⟩, 1, 1, [d]⟩⟩, ⟨some ⟨b36, 0, none⟩, 1, 1, [r]⟩⟩ : Signed)); (iterate 10 rfl)); intro _ _) | (apply TL.val; rfl; rfl; (first | exact vpure | exact vread)) | (apply TL.x; rfl; rfl; (first | exact xgrow | exact xput); intro _ _) | (apply TL.guard; rfl; rfl; rfl; (exact isx); intro _; rotate_left; intro _; rotate_right)))
  all_goals (try contradiction)
  all_goals (try (exfalso; omega))
  refine N.ret1 rfl (by (exact rvx)) fun w1 hst => ?_
  exact ⟨(H3, ⟨⟨s, t, 20, ⟨some ⟨b17, 0, none⟩, 1, 1, [d]⟩⟩, ⟨some ⟨b36, 0, none⟩, 1, 1, [r]⟩⟩), ⟨rfl, ⟨Enc.mono hle3 hx, hn3⟩⟩, rfl, hst.fresh⟩
set_option maxHeartbeats 2000000 in
theorem c_r14Set0 (s : Bytes) (t : Int) (d : Datum) (zone : Bytes) {r : Sig × Int} (hr : signC (tSet s t d) zone ⟨0, 1⟩ 0 1000 = r) {H : Hp} {w : World} (hs : Sat H w) (hR : Rules H) (hsl : LenOk s) (ht : I64 t) (hd : Enc.good H d) (hz : LenOk zone) : Calls Tryz.prog 15 #[strV s, intV t, .agg (enc d).toArray, strV zone, intV 0] w
    (RetF w H (fun p : Hp × Signed => p.2.c = ⟨tSet s t d, []⟩ ∧ Enc.good p.1 p.2) (fun p => .agg (enc p.2).toArray) (fun p => p.1)) := by
  refine T.enter (vs := [strV s, intV t, .agg (enc d).toArray, strV zone, intV 0]) (H := H) Tryz.func15 rfl rfl rfl hs ?_
  have hkg : Enc.good H (⟨0, 1⟩ : KeyC) := ⟨(show I64 0 by decide), (show I64 1 by decide)⟩
  have hS : ∀ {b : Nat} {H' : Hp} {w : World}, Rules H' → Enc.good H' (⟨s, t, 20, ⟨some ⟨b, 0, none⟩, 1, 1, [d]⟩⟩ : RSet) → Sat H' w → Calls Tryz.prog 44 #[.agg (enc (⟨s, t, 20, ⟨some ⟨b, 0, none⟩, 1, 1, [d]⟩⟩ : RSet)).toArray, strV zone, .agg (enc (⟨0, 1⟩ : KeyC)).toArray, intV 0, intV 1000] w (Ret w (.tuple #[.agg (enc r.1).toArray, intV r.2])) := fun hR hx hs => by
    have := c_Sign _ zone ⟨0, 1⟩ 0 1000 _ _ hs hR hx hz (show Enc.good _ (⟨0, 1⟩ : KeyC) from hkg) (by decide) (by decide)
    rw [show (⟨s, t, 20, ⟨some ⟨_, 0, none⟩, 1, 1, [d]⟩⟩ : RSet).c = tSet s t d from rfl, hr] at this
    exact this
  repeat (any_goals (first | refine T.seq ?_ | refine T.region ?_ | refine TL.nil ?_ | refine N.next ?_ | refine N.inBlock ?_ | refine N.exit_same ?_ | refine N.exit_then ?_ | refine N.ret_then ?_ | refine N.ret_block ?_ | (apply N.exit_other; rfl) | refine T.ret ?_ | refine T.skip ?_ | refine T.exit ?_ | refine T.block ?_ | (apply T.cond_true; rfl) | (apply T.cond_false; rfl) | (apply T.test; rfl; (exact isx); intro _; rotate_left; intro _; rotate_right) | (apply TL.skip; rfl; rfl; rfl) | (apply TL.skip_none; rfl; rfl) | (apply TL.x; rfl; rfl; (apply X.box (d := 7); rfl; rfl; rfl); intro b7 _) | (apply TL.x; rfl; rfl; (apply X.alloc (d := 10); rfl; rfl; rfl); intro b10 _) | (apply TL.x; rfl; rfl; (apply X.buildSlice1 (d := 17); (iterate 8 rfl)); intro b17 _; apply TL.frzBlk 0 (els := [d]) (m := 1) rfl rfl rfl (by decide) (by intro x hx; simp at hx; rw [hx]; exact hd); intro H2 hn2 hle2; have hx : Enc.good H2 (⟨s, t, 20, ⟨some ⟨b17, 0, none⟩, 1, 1, [d]⟩⟩ : RSet) := ⟨hsl, ht, (show I64 20 by decide), hn2⟩) | (apply TL.val; rfl; rfl; (apply V.build; (iterate 6 rfl))) | (apply TL.x; rfl; rfl; (apply X.alloc (d := 11); rfl; rfl; rfl); intro b11 _) | (apply TL.x; rfl; rfl; (apply X.alloc (d := 12); rfl; rfl; rfl); intro b12 _) | (apply TL.x; rfl; rfl; (apply X.storeTo 0 (enc (⟨⟨s, t, 20, ⟨some ⟨b17, 0, none⟩, 1, 1, [d]⟩⟩, Slc.nil _⟩ : Signed)); (iterate 10 rfl)); intro _ _) | (apply TL.callE (f := 44) [.agg (enc (⟨s, t, 20, ⟨some ⟨b17, 0, none⟩, 1, 1, [d]⟩⟩ : RSet)).toArray, strV zone, .agg (enc (⟨0, 1⟩ : KeyC)).toArray, intV 0, intV 1000] Tryz.call44; (iterate 4 rfl); (exact fun _ hs => hS (Rules.mono hle2 hR) hx hs.sat)) | (apply TL.x; rfl; rfl; (apply X.storeTo 0 (enc r.1); (iterate 10 rfl)); intro _ _) | (apply TL.x; rfl; rfl; (apply X.storeTo 2 (enc (⟨⟨s, t, 20, ⟨some ⟨b17, 0, none⟩, 1, 1, [d]⟩⟩, Slc.nil _⟩ : Signed)); (iterate 10 rfl)); intro _ _) | (apply TL.val; rfl; rfl; (first | exact vpure | exact vread)) | (apply TL.x; rfl; rfl; (first | exact xgrow | exact xput); intro _ _) | (apply TL.guard; rfl; rfl; rfl; (exact isx); intro _; rotate_left; intro _; rotate_right)))
  all_goals (try contradiction)
  all_goals (try (exfalso; omega))
  refine N.ret1 rfl (by (exact rvx)) fun w1 hst => ?_
  exact ⟨(H2, ⟨⟨s, t, 20, ⟨some ⟨b17, 0, none⟩, 1, 1, [d]⟩⟩, Slc.nil _⟩), ⟨rfl, ⟨hx, Slc.nil_good⟩⟩, rfl, hst.fresh⟩
def qText : Question := ⟨[116], 5⟩
theorem qText_good (H : Hp) : Enc.good H qText := ⟨by show LenOk [116]; decide, by show I64 5; decide⟩
theorem c_r14Text {H : Hp} {w : World} (hs : Sat H w) : Calls Tryz.prog 17 #[] w (Ret w (.agg (enc qText).toArray)) := by
  refine T.enter (vs := []) (H := H) Tryz.func17 rfl rfl rfl hs ?_
  repeat (any_goals (first | refine T.seq ?_ | refine T.region ?_ | refine TL.nil ?_ | refine N.next ?_ | refine N.inBlock ?_ | refine N.exit_same ?_ | refine N.exit_then ?_ | refine N.ret_then ?_ | refine N.ret_block ?_ | (apply N.exit_other; rfl) | refine T.ret ?_ | refine T.skip ?_ | refine T.exit ?_ | refine T.block ?_ | (apply T.cond_true; rfl) | (apply T.cond_false; rfl) | (apply T.test; rfl; (exact isx); intro _; rotate_left; intro _; rotate_right) | (apply TL.skip; rfl; rfl; rfl) | (apply TL.skip_none; rfl; rfl) | (apply TL.val; rfl; rfl; (apply V.build; (iterate 6 rfl))) | (apply TL.x; rfl; rfl; (apply X.storeTo 0 (enc qText); (iterate 10 rfl)); intro _ _) | (apply TL.val; rfl; rfl; (first | exact vpure | exact vread)) | (apply TL.x; rfl; rfl; (first | exact xgrow | exact xput); intro _ _) | (apply TL.guard; rfl; rfl; rfl; (exact isx); intro _; rotate_left; intro _; rotate_right)))
  refine N.ret1 rfl (by (exact rvx)) fun w1 hst => ⟨rfl, hst.below⟩
def dA : Datum := ⟨[97], 0, 0⟩
def dStart : Datum := ⟨[], 1, 9⟩
def dKey : Datum := ⟨[], 1, 1⟩
def dAddr : Datum := ⟨[], 1, 0⟩
def dT : Datum := ⟨[116], 0, 0⟩
def dF : Datum := ⟨[102], 0, 0⟩
def sigT (s : Bytes) (t : Int) (d : Datum) (n : Int) : Sig := (signC (tSet s t d) [46] ⟨n, 1⟩ 0 1000).1
def anT : SetC := tSet [46] 6 dKey
def kyT : SignedC := ⟨tSet [46] 7 dKey, [sigT [46] 7 dKey 1]⟩
def txT : SignedC := ⟨tSet [116] 5 dT, [sigT [116] 5 dT 1]⟩
def foT : SignedC := ⟨tSet [116] 5 dF, [sigT [116] 5 dF 2]⟩
theorem sig_1 : signC (tSet [46] 2 dA) [46] ⟨1, 1⟩ 0 1000 = (sigT [46] 2 dA 1, 0) := by decide +kernel
theorem sig_2 : signC (tSet [46] 4 dStart) [46] ⟨1, 1⟩ 0 1000 = (sigT [46] 4 dStart 1, 0) := by decide +kernel
theorem sig_3 : signC (tSet [46] 7 dKey) [46] ⟨1, 1⟩ 0 1000 = (sigT [46] 7 dKey 1, 0) := by decide +kernel
theorem sig_4 : signC (tSet [97] 1 dAddr) [46] ⟨1, 1⟩ 0 1000 = (sigT [97] 1 dAddr 1, 0) := by decide +kernel
theorem sig_5 : signC (tSet [116] 5 dT) [46] ⟨1, 1⟩ 0 1000 = (sigT [116] 5 dT 1, 0) := by decide +kernel
theorem sig_6 : signC (tSet [116] 5 dF) [46] ⟨2, 1⟩ 0 1000 = (sigT [116] 5 dF 2, 0) := by decide +kernel
theorem path_T : pathC [kyT, txT] anT [46] 50 5 = ([⟨1, 1⟩], qNil, 0) := by decide +kernel
theorem path_F : pathC [kyT, foT] anT [46] 50 5 = ([⟨1, 1⟩], qNil, 0) := by decide +kernel
theorem by_T : signedBy txT [46] [⟨1, 1⟩] 50 5 = true := by decide +kernel
theorem by_F : signedBy foT [46] [⟨1, 1⟩] 50 5 = false := by decide +kernel
theorem ok_T : setOK kyT.set = true ∧ setOK txT.set = true ∧ setOK foT.set = true ∧ setOK anT = true := by decide +kernel
end Go.Proofs.YtpnoabbdcakjkaaGreatDoor
set_option pp.deepTerms true
set_option pp.maxSteps 10000000
namespace Go.Proofs.YtpnoabbdcakjkaaGreatDoor
set_option linter.unusedVariables false
set_option linter.unusedSimpArgs false
open Go Go.RowKit
open Enc (enc)
set_option maxRecDepth 20000
section
variable {P : Program} {n : FK} {w0 w w' : World} {H0 H H' : Hp} {Q : Exit → Act → World → Prop} {env : List (Nat × Value)} {L L' : List Loc} {κ : Type} [DecidableEq κ] {mk : κ → Value} {kt : TypeId} {kd : TypeDesc}
/-- An entry of a map literal. -/
theorem X.minsert [Tys P] {t e ty : TypeId} {x y z : Operand} {b : Nat} {k : TyK} {pos : String} {after : Array Edge} {g : Option (Nat × Bool)} {l : List (κ × Value)} {v : Value} (i : Nat) (a : κ) (hk : tyk P t = some k) (hd : k.desc = .map kt e) (K : KeyK P kt kd mk) (hx : ev env x = some (.map (some b))) (hy : ev env y = some (mk a)) (hz : ev env z = some v)
    (hi : L[i]? = some (.any b (mObj mk l))) {L' : List Loc} (hL : L.set i (.any b (mObj mk (aPut a v l))) = L') : X P n w0 H0 env H L ⟨none, .insert t x y z, ty, pos, after, g⟩ false (G := Unit) (fun _ => True) (fun _ => env) (fun _ => H) (fun _ => L') :=
  ⟨fun a' w hf hs K' Q hK => by
    obtain ⟨d, hd1, hd2⟩ := (tyk_ok hk).und
    rw [hd] at hd2
    simp only [TyD.fits] at hd2
    subst hd2
    have hrun := run_mput K hd1 a v (hs.ok _ (List.mem_of_getElem? hi)).2
    unfold Oper.wp
    have : (execOp a'.eval ⟨none, .insert t x y z, ty, pos, after, g⟩).run P w = .ok .skip (w.putObj b (mObj mk (aPut a v l))) := by
      unfold execOp
      simp only [hf.ev hx, hf.ev hy, hf.ev hz, Sem.run_bind, hrun]
      rfl
    rw [this]
    subst hL
    exact hK () _ _ trivial (fun h => by cases h) (hf.put_none _) (hs.putObj _ hi)⟩
end
/-- The signer of a set. -/
def signerC (s : SignedC) : Bytes := match s.sigs with
  | [] => []
  | g :: _ => g.zone
theorem c_signer (s : Signed) {H : Hp} {w : World} (hs : Sat H w) (hg : Enc.good H s) : Calls Tryz.prog 88 #[.agg (enc s).toArray] w (Ret w (strV (signerC s.c))) := by
  have hl := hg.2.len
  refine T.enter (vs := [.agg (enc s).toArray]) (H := H) Tryz.func88 rfl rfl rfl hs ?_
  by_cases h0 : s.sigs.len = 0
  · have he : s.sigs.els = [] := List.eq_nil_of_length_eq_zero (by omega)
    repeat (any_goals (first | refine T.seq ?_ | refine T.region ?_ | refine TL.nil ?_ | refine N.next ?_ | refine N.inBlock ?_ | refine N.exit_same ?_ | refine N.exit_then ?_ | refine N.ret_then ?_ | refine N.ret_block ?_ | (apply N.exit_other; rfl) | refine T.ret ?_ | refine T.skip ?_ | refine T.exit ?_ | refine T.block ?_ | (apply T.cond_true; rfl) | (apply T.cond_false; rfl) | (apply T.test; rfl; (exact isx); intro _; rotate_left; intro _; rotate_right) | (apply TL.skip; rfl; rfl; rfl) | (apply TL.skip_none; rfl; rfl) | (apply TL.val; rfl; rfl; (first | exact vpure | exact vread)) | (apply TL.x; rfl; rfl; (first | exact xgrow | exact xput); intro _ _) | (apply TL.guard; rfl; rfl; rfl; (exact isx); intro _; rotate_left; intro _; rotate_right)))
    all_goals (try (exfalso; omega))
    exact N.ret_val rfl (by (exact rvx)) (by unfold signerC; rw [show s.c.sigs = [] from he])
  · have hpos : 0 < s.sigs.len := by omega
    have hpe : 0 < s.sigs.els.length := by omega
    have hz : signerC s.c = (s.sigs.els[0]'hpe).zone := by
      unfold signerC
      show (match s.sigs.els with | [] => [] | g :: _ => g.zone) = _
      generalize s.sigs.els = l at hpe
      cases l with
      | nil => simp at hpe
      | cons x t => rfl
    repeat (any_goals (first | refine T.seq ?_ | refine T.region ?_ | refine TL.nil ?_ | refine N.next ?_ | refine N.inBlock ?_ | refine N.exit_same ?_ | refine N.exit_then ?_ | refine N.ret_then ?_ | refine N.ret_block ?_ | (apply N.exit_other; rfl) | refine T.ret ?_ | refine T.skip ?_ | refine T.exit ?_ | refine T.block ?_ | (apply T.cond_true; rfl) | (apply T.cond_false; rfl) | (apply T.test; rfl; (exact isx); intro _; rotate_left; intro _; rotate_right) | (apply TL.skip; rfl; rfl; rfl) | (apply TL.skip_none; rfl; rfl) | (apply TL.val; rfl; rfl; (apply V.elem (j := 0); (iterate 6 rfl); exact hpos; exact hg.2.at_ hpos)) | (apply TL.val; rfl; rfl; (apply V.load_H; rfl; rfl; rfl; exact hg.2.cell (j := 0) hpos rfl)) | (apply TL.val; rfl; rfl; (first | exact vpure | exact vread)) | (apply TL.x; rfl; rfl; (first | exact xgrow | exact xput); intro _ _) | (apply TL.guard; rfl; rfl; rfl; (exact isx); intro _; rotate_left; intro _; rotate_right)))
    all_goals (try (exfalso; omega))
    exact N.ret_val rfl (by (exact rvx)) (congrArg strV hz.symm)
def qKey (s : Signed) : Question := ⟨s.set.name, s.set.typ⟩
/-- The counted set of a question. -/
def countsQ (q : Question) (s : Signed) : Bool := decide (qKey s = q) && decide (signerC s.c ≠ [])
def countedF (l : List Signed) (q : Question) : Option Signed := l.find? (countsQ q)
theorem countedF_up {l : List Signed} {k : Nat} {x : Signed} (h : l[k]? = some x) (q : Question) : countedF (l.take (k + 1)) q = (countedF (l.take k) q).or (if countsQ q x then some x else none) := by
  unfold countedF
  rw [List.take_add_one, h, List.find?_append, Option.toList_some, List.find?_cons, List.find?_nil]
  cases (l.take k).find? (countsQ q) with
  | some y => rfl
  | none => cases countsQ q x <;> rfl
def nilS : Signed := ⟨⟨[], 0, 0, Slc.nil _⟩, Slc.nil _⟩
theorem aGet_putY {κ : Type} [DecidableEq κ] {a b : κ} {v : Value} : ∀ {l : List (κ × Value)}, aGet a l = none → aGet b (aPut a v l) = if b = a then some v else aGet b l := by
  intro l h
  have hn : aFind a l 0 = none := by
    unfold aGet at h
    cases hf : aFind a l 0 with
    | none => rfl
    | some p => rw [hf] at h; cases h
  have key : ∀ (l : List (κ × Value)) (i : Nat), aFind b (l ++ [(a, v)]) i = (aFind b l i).or (if b = a then some (i + l.length, v) else none) := by
    intro l
    induction l with
    | nil => intro i; simp [aFind]
    | cons p l ih =>
      intro i
      obtain ⟨k, u⟩ := p
      simp only [List.cons_append, aFind]
      by_cases e : b = k
      · simp [e]
      · rw [if_neg e, if_neg e, ih]
        simp [Nat.add_comm, Nat.add_left_comm]
  unfold aPut
  rw [hn]
  simp only [aGet, key]
  by_cases e : b = a
  · subst e; simp [hn]
  · simp [e]
def sgV (s : Signed) : Value := .agg (enc s).toArray
def CMap (H : Hp) (b : Nat) (l : List Signed) : Prop := ∃ m, H b = some (mObj qV m) ∧ ∀ q, aGet q m = (countedF l q).map sgV
set_option maxHeartbeats 8000000 in
theorem c_count (l : Slc Signed) (H : Hp) (w : World) (hs : Sat H w) (hg : l.Good H) : Calls Tryz.prog 47 #[l.v] w (RetF w H (fun p : Hp × Nat => CMap p.1 p.2 l.els) (fun p => .map (some p.2)) (fun p => p.1)) := by
  have hlen := hg.len
  have hlim := hg.lim
  refine T.enter (vs := [l.v]) (H := H) Tryz.func47 rfl rfl rfl hs ?_
  repeat (any_goals (first | refine T.seq ?_ | refine T.region ?_ | refine TL.nil ?_ | refine N.next ?_ | refine N.inBlock ?_ | refine N.exit_same ?_ | refine N.exit_then ?_ | refine N.ret_then ?_ | refine N.ret_block ?_ | (apply N.exit_other; rfl) | refine T.ret ?_ | refine T.skip ?_ | refine T.exit ?_ | refine T.block ?_ | (apply T.cond_true; rfl) | (apply T.cond_false; rfl) | (apply T.test; rfl; (exact isx); intro _; rotate_left; intro _; rotate_right) | (apply TL.skip; rfl; rfl; rfl) | (apply TL.skip_none; rfl; rfl) | (apply TL.x; rfl; rfl; (apply X.makeMap qV; rfl); intro bm _) | (apply TL.val; rfl; rfl; (first | exact vpure | exact vread)) | (apply TL.x; rfl; rfl; (first | exact xgrow | exact xput); intro _ _) | (apply TL.guard; rfl; rfl; rfl; (exact isx); intro _; rotate_left; intro _; rotate_right)))
  refine T.loop (G := List (Question × Value) × Nat) (fun g => [(3, .map (some bm)), (10, l.v), (11, intV l.len), (12, intV g.2)]) (fun _ => H) (fun g => [.any bm (mObj qV g.1)]) (fun g => g.2 ≤ l.len ∧ ∀ q, aGet q g.1 = (countedF (l.els.take g.2) q).map sgV) (fun g => l.len - g.2) ([], 0) ⟨Nat.zero_le _, fun _ => rfl⟩ (by (repeat (first | exact True.intro | refine ⟨rfl, ?_⟩ | refine Sub.int rfl (by omega) ?_))) rfl (by (repeat (first | exact List.Sublist.refl _ | exact List.nil_sublist _ | apply List.Sublist.cons_cons | apply List.Sublist.cons))) ?_
  rintro ⟨m, k⟩ ⟨hk, hget⟩
  simp only at hk hget ⊢
  by_cases hlt : k < l.len
  · have hk2 : k < l.els.length := by omega
    have hx := hg.els _ (List.getElem_mem hk2)
    have hup := countedF_up (List.getElem?_eq_getElem hk2)
    generalize hee : l.els[k]'hk2 = e at hx hup
    have hEn : enc (l.els[k]'hk2) = enc e := by rw [hee]
    have hgq := hget (qKey e)
    obtain ⟨f, hf⟩ : ∃ f, countedF (l.els.take k) (qKey e) = f := ⟨_, rfl⟩
    rw [hf] at hgq
    have hno : ∀ q : Question, q ≠ qKey e → countsQ q e = false := fun q hq => by
      unfold countsQ
      rw [decide_eq_false (fun h => hq h.symm), Bool.false_and]
    cases f with
    | some s0 =>
      have hg1 : (aGet (qKey e) m).getD (.agg (enc nilS).toArray) = sgV s0 := by rw [hgq]; rfl
      have hg2 : (aGet (qKey e) m).isSome = true := by rw [hgq]; rfl
      repeat (any_goals (first | refine T.seq ?_ | refine T.region ?_ | refine TL.nil ?_ | refine N.next ?_ | refine N.inBlock ?_ | refine N.exit_same ?_ | refine N.exit_then ?_ | refine N.ret_then ?_ | refine N.ret_block ?_ | (apply N.exit_other; rfl) | refine T.ret ?_ | refine T.skip ?_ | refine T.exit ?_ | refine T.block ?_ | (apply T.cond_true; rfl) | (apply T.cond_false; rfl) | (apply T.test; rfl; (exact isx); intro _; rotate_left; intro _; rotate_right) | (apply TL.skip; rfl; rfl; rfl) | (apply TL.skip_none; rfl; rfl) | (apply TL.x; rfl; rfl; (apply X.storeTo 0 (enc e); (iterate 8 rfl); exact hEn; rfl); intro _ _) | (apply TL.val; rfl; rfl; (apply V.build; (iterate 6 rfl))) | (apply TL.x; rfl; rfl; (apply X.storeTo 0 (enc (qKey e)); (iterate 10 rfl)); intro _ _) | (apply TL.val; rfl; rfl; (apply V.mlookupOkG (qKey e) (l := m); rfl; rfl; rfl; exact key_q; rfl; rfl; (exact lmem); exact hg1; exact hg2)) | (apply TL.x; rfl; rfl; (apply X.storeTo 0 (enc s0); (iterate 10 rfl)); intro _ _) | (apply TL.val; rfl; rfl; (first | exact vpure | exact vread)) | (apply TL.x; rfl; rfl; (first | exact xgrow | exact xput); intro _ _) | (apply TL.guard; rfl; rfl; rfl; (exact isx); intro _; rotate_left; intro _; rotate_right)))
      all_goals (try contradiction)
      all_goals (try (exfalso; omega))
      refine N.round (m, k + 1) ⟨by show k + 1 ≤ _; omega, fun q => ?_⟩ (by show l.len - (k + 1) < l.len - k; omega) (by (repeat (first | exact True.intro | refine ⟨rfl, ?_⟩ | refine Sub.int rfl (by omega) ?_))) rfl (by (repeat (first | exact List.Sublist.refl _ | exact List.nil_sublist _ | apply List.Sublist.cons_cons | apply List.Sublist.cons)))
      show aGet q m = _
      rw [hup q, hget q]
      by_cases hq : q = qKey e
      · subst hq; rw [hf]; rfl
      · rw [hno q hq, if_neg Bool.false_ne_true, Option.or_none]
    | none =>
      have hg1 : (aGet (qKey e) m).getD (.agg (enc nilS).toArray) = .agg (enc nilS).toArray := by rw [hgq]; rfl
      have hg2 : (aGet (qKey e) m).isSome = false := by rw [hgq]; rfl
      have hga : aGet (qKey e) m = none := by rw [hgq]; rfl
      repeat (any_goals (first | refine T.seq ?_ | refine T.region ?_ | refine TL.nil ?_ | refine N.next ?_ | refine N.inBlock ?_ | refine N.exit_same ?_ | refine N.exit_then ?_ | refine N.ret_then ?_ | refine N.ret_block ?_ | (apply N.exit_other; rfl) | refine T.ret ?_ | refine T.skip ?_ | refine T.exit ?_ | refine T.block ?_ | (apply T.cond_true; rfl) | (apply T.cond_false; rfl) | (apply T.test; rfl; (exact isx); intro _; rotate_left; intro _; rotate_right) | (apply TL.skip; rfl; rfl; rfl) | (apply TL.skip_none; rfl; rfl) | (apply TL.x; rfl; rfl; (apply X.storeTo 0 (enc e); (iterate 8 rfl); exact hEn; rfl); intro _ _) | (apply TL.val; rfl; rfl; (apply V.build; (iterate 6 rfl))) | (apply TL.x; rfl; rfl; (apply X.storeTo 0 (enc (qKey e)); (iterate 10 rfl)); intro _ _) | (apply TL.val; rfl; rfl; (apply V.mlookupOkG (qKey e) (l := m); rfl; rfl; rfl; exact key_q; rfl; rfl; (exact lmem); exact hg1; exact hg2)) | (apply TL.x; rfl; rfl; (apply X.storeTo 0 (enc nilS); (iterate 10 rfl)); intro _ _) | (apply TL.callE (f := 88) [.agg (enc e).toArray] Tryz.call88; (iterate 4 rfl); (exact fun _ hs => c_signer e hs.sat hx)) | (apply TL.x; rfl; rfl; (apply X.mputG 3 (qKey e) (v := sgV e); rfl; rfl; exact key_q; (iterate 5 rfl)); intro _ _) | (apply TL.val; rfl; rfl; (first | exact vpure | exact vread)) | (apply TL.x; rfl; rfl; (first | exact xgrow | exact xput); intro _ _) | (apply TL.guard; rfl; rfl; rfl; (exact isx); intro _; rotate_left; intro _; rotate_right)))
      all_goals (try contradiction)
      all_goals (try (exfalso; omega))
      all_goals first
        | (have hsg : signerC e.c ≠ [] := by assumption
           refine N.round (aPut (qKey e) (sgV e) m, k + 1) ⟨by show k + 1 ≤ _; omega, fun q => ?_⟩ (by show l.len - (k + 1) < l.len - k; omega) (by (repeat (first | exact True.intro | refine ⟨rfl, ?_⟩ | refine Sub.int rfl (by omega) ?_))) rfl (by (repeat (first | exact List.Sublist.refl _ | exact List.nil_sublist _ | apply List.Sublist.cons_cons | apply List.Sublist.cons)))
           show aGet q (aPut _ _ m) = _
           rw [aGet_putY hga, hup q, hget q]
           by_cases hq : q = qKey e
           · subst hq
             rw [if_pos rfl, hf]
             unfold countsQ
             rw [decide_eq_true rfl, decide_eq_true hsg]; rfl
           · rw [if_neg hq, hno q hq, if_neg Bool.false_ne_true, Option.or_none])
        | (have hsg : signerC e.c = [] := by assumption
           refine N.round (m, k + 1) ⟨by show k + 1 ≤ _; omega, fun q => ?_⟩ (by show l.len - (k + 1) < l.len - k; omega) (by (repeat (first | exact True.intro | refine ⟨rfl, ?_⟩ | refine Sub.int rfl (by omega) ?_))) rfl (by (repeat (first | exact List.Sublist.refl _ | exact List.nil_sublist _ | apply List.Sublist.cons_cons | apply List.Sublist.cons)))
           show aGet q m = _
           rw [hup q, hget q]
           unfold countsQ
           rw [show decide (signerC e.c ≠ []) = false from decide_eq_false (fun h => h hsg), Bool.and_false, if_neg Bool.false_ne_true, Option.or_none])
  · have hke : k = l.len := by omega
    subst hke
    rw [List.take_of_length_le (by omega)] at hget
    repeat (any_goals (first | refine T.seq ?_ | refine T.region ?_ | refine TL.nil ?_ | refine N.next ?_ | refine N.inBlock ?_ | refine N.exit_same ?_ | refine N.exit_then ?_ | refine N.ret_then ?_ | refine N.ret_block ?_ | (apply N.exit_other; rfl) | refine T.ret ?_ | refine T.skip ?_ | refine T.exit ?_ | refine T.block ?_ | (apply T.cond_true; rfl) | (apply T.cond_false; rfl) | (apply T.test; rfl; (exact isx); intro _; rotate_left; intro _; rotate_right) | (apply TL.skip; rfl; rfl; rfl) | (apply TL.skip_none; rfl; rfl) | (apply TL.val; rfl; rfl; (first | exact vpure | exact vread)) | (apply TL.x; rfl; rfl; (first | exact xgrow | exact xput); intro _ _) | (apply TL.guard; rfl; rfl; rfl; (exact isx); intro _; rotate_left; intro _; rotate_right)))
    all_goals (try (exfalso; omega))
    refine N.ret1 rfl (by (exact rvx)) fun w hst => ?_
    obtain ⟨H3, zm, hle3, hst3⟩ := hst.frzAnyU
    exact ⟨(H3, bm), ⟨m, zm, hget⟩, rfl, hst3.fresh⟩
end Go.Proofs.YtpnoabbdcakjkaaGreatDoor
set_option pp.deepTerms true
set_option pp.maxSteps 10000000
namespace Go.Proofs.YtpnoabbdcakjkaaGreatDoor
set_option linter.unusedVariables false
set_option linter.unusedSimpArgs false
open Go Go.RowKit
open Enc (enc)
set_option maxRecDepth 20000
theorem c_IndexSignedV (s : Slc Signed) (p : Signed → Bool) {F : FuncId} {cap : Array Value} (hcall : ∀ (args : Array Value) (w : World), (callFunc F args).run Tryz.prog w = .ok (.enter F args) w) (H : Hp) (w : World) (hs : Sat H w) (hg : s.Good H) (hF : ∀ x ∈ s.els, ∀ w, Sat H w → Calls Tryz.prog F (#[] ++ [Value.agg (enc x).toArray].toArray ++ cap) w (Ret w (.bool (p x)))) : Calls Tryz.prog 121 #[s.v, .func (.func F) #[] cap] w (Ret w (intV (indexC p s.els))) := by
  have hlen := hg.len
  have hlim := hg.lim
  refine T.enter (vs := [s.v, .func (.func F) #[] cap]) (H := H) Tryz.func121 rfl rfl rfl hs ?_
  repeat (any_goals (first | refine T.seq ?_ | refine T.region ?_ | refine TL.nil ?_ | refine N.next ?_ | refine N.inBlock ?_ | refine N.exit_same ?_ | refine N.exit_then ?_ | refine N.ret_then ?_ | refine N.ret_block ?_ | (apply N.exit_other; rfl) | refine T.ret ?_ | refine T.skip ?_ | refine T.exit ?_ | refine T.block ?_ | (apply T.cond_true; rfl) | (apply T.cond_false; rfl) | (apply T.test; rfl; (exact isx); intro _; rotate_left; intro _; rotate_right) | (apply TL.skip; rfl; rfl; rfl) | (apply TL.skip_none; rfl; rfl) | (apply TL.val; rfl; rfl; (first | exact vpure | exact vread)) | (apply TL.x; rfl; rfl; (first | exact xgrow | exact xput); intro _ _) | (apply TL.guard; rfl; rfl; rfl; (exact isx); intro _; rotate_left; intro _; rotate_right)))
  refine T.loop (G := Nat) (fun k => [(0, s.v), (1, .func (.func F) #[] cap), (6, s.v), (7, intV s.len), (8, intV k)]) (fun _ => H) (fun _ => []) (fun k => k ≤ s.len ∧ ∀ j (hj : j < s.els.length), j < k → p (s.els[j]) = false) (fun k => s.len - k) 0 ⟨Nat.zero_le _, fun j _ h => by omega⟩ (by (repeat (first | exact True.intro | refine ⟨rfl, ?_⟩ | refine Sub.int rfl (by omega) ?_))) rfl (by (first | exact List.Sublist.refl _ | exact List.nil_sublist _ | exact List.Sublist.cons _ (List.Sublist.refl _) | exact List.Sublist.cons _ (List.Sublist.cons _ (List.Sublist.refl _)))) ?_
  rintro k ⟨hk, hrel⟩
  by_cases hlt : k < s.len
  · have hkl : k < s.els.length := by omega
    obtain ⟨pv, hpv⟩ : ∃ v, p s.els[k] = v := ⟨_, rfl⟩
    repeat (any_goals (first | refine T.seq ?_ | refine T.region ?_ | refine TL.nil ?_ | refine N.next ?_ | refine N.inBlock ?_ | refine N.exit_same ?_ | refine N.exit_then ?_ | refine N.ret_then ?_ | refine N.ret_block ?_ | (apply N.exit_other; rfl) | refine T.ret ?_ | refine T.skip ?_ | refine T.exit ?_ | refine T.block ?_ | (apply T.cond_true; rfl) | (apply T.cond_false; rfl) | (apply T.test; rfl; (exact isx); intro _; rotate_left; intro _; rotate_right) | (apply TL.skip; rfl; rfl; rfl) | (apply TL.skip_none; rfl; rfl) | (apply TL.call; (iterate 4 rfl); exact hcall; exact fun _ hs => hpv ▸ hF s.els[k] (List.getElem_mem hkl) _ hs.sat) | (apply TL.val; rfl; rfl; (first | exact vpure | exact vread)) | (apply TL.x; rfl; rfl; (first | exact xgrow | exact xput); intro _ _) | (apply TL.guard; rfl; rfl; rfl; (exact isx); intro _; rotate_left; intro _; rotate_right)))
    all_goals (try (exfalso; omega))
    · refine N.ret_int rfl (by (exact rvx)) ?_
      exact (indexC_at hkl hrel (hpv.trans (by assumption))).symm
    · (refine N.round (k + 1) ?_ ?_ ?_ ?_ ?_; rotate_left 2; (repeat (first | exact True.intro | refine ⟨rfl, ?_⟩ | refine Sub.int rfl (by omega) ?_)); rfl; (first | exact List.Sublist.refl _ | exact List.nil_sublist _ | exact List.Sublist.cons _ (List.Sublist.refl _) | exact List.Sublist.cons _ (List.Sublist.cons _ (List.Sublist.refl _))))
      · refine ⟨by omega, fun j hj hjk => ?_⟩
        by_cases e : j = k
        · subst e; exact hpv.trans (by assumption)
        · exact hrel j hj (by omega)
      · omega
  · repeat (any_goals (first | refine T.seq ?_ | refine T.region ?_ | refine TL.nil ?_ | refine N.next ?_ | refine N.inBlock ?_ | refine N.exit_same ?_ | refine N.exit_then ?_ | refine N.ret_then ?_ | refine N.ret_block ?_ | (apply N.exit_other; rfl) | refine T.ret ?_ | refine T.skip ?_ | refine T.exit ?_ | refine T.block ?_ | (apply T.cond_true; rfl) | (apply T.cond_false; rfl) | (apply T.test; rfl; (exact isx); intro _; rotate_left; intro _; rotate_right) | (apply TL.skip; rfl; rfl; rfl) | (apply TL.skip_none; rfl; rfl) | (apply TL.val; rfl; rfl; (first | exact vpure | exact vread)) | (apply TL.x; rfl; rfl; (first | exact xgrow | exact xput); intro _ _) | (apply TL.guard; rfl; rfl; rfl; (exact isx); intro _; rotate_left; intro _; rotate_right)))
    all_goals (try (exfalso; omega))
    refine N.ret_int rfl (by (exact rvx)) ?_
    exact (indexC_no fun j hj => hrel j hj (by omega)).symm
theorem c_known1 (x : Signed) {H : Hp} {w : World} (hs : Sat H w) (hR : Rules H) (hx : Enc.good H x) : Calls Tryz.prog 83 #[.agg (enc x).toArray] w (Ret w (.bool (!setOK x.set.c))) := by
  refine T.enter (vs := [.agg (enc x).toArray]) (H := H) Tryz.func83 rfl rfl rfl hs ?_
  repeat (any_goals (first | refine T.seq ?_ | refine T.region ?_ | refine TL.nil ?_ | refine N.next ?_ | refine N.inBlock ?_ | refine N.exit_same ?_ | refine N.exit_then ?_ | refine N.ret_then ?_ | refine N.ret_block ?_ | (apply N.exit_other; rfl) | refine T.ret ?_ | refine T.skip ?_ | refine T.exit ?_ | refine T.block ?_ | (apply T.cond_true; rfl) | (apply T.cond_false; rfl) | (apply T.test; rfl; (exact isx); intro _; rotate_left; intro _; rotate_right) | (apply TL.skip; rfl; rfl; rfl) | (apply TL.skip_none; rfl; rfl) | (apply TL.callE (f := 46) [.agg (enc x.set).toArray] Tryz.call46; (iterate 4 rfl); (exact fun _ hs => c_recordValid x.set _ _ hs.sat hR hx.1)) | (apply TL.val; rfl; rfl; (first | exact vpure | exact vread)) | (apply TL.x; rfl; rfl; (first | exact xgrow | exact xput); intro _ _) | (apply TL.guard; rfl; rfl; rfl; (exact isx); intro _; rotate_left; intro _; rotate_right)))
  exact N.ret_bool rfl (by (exact rvx)) rfl
theorem capS0 {x : Signed} : (#[] ++ [Value.agg (enc x).toArray].toArray ++ #[] : Array Value) = #[.agg (enc x).toArray] := by simp
theorem c_vknownOK (l : Slc Signed) (hall : ∀ x ∈ l.els, setOK x.set.c = true) (hl : l.len ≤ 400) {H : Hp} {w : World} (hs : Sat H w) (hR : Rules H) (hg : l.Good H) : Calls Tryz.prog 45 #[l.v] w (Ret w (.bool true)) := by
  have hlen := hg.len
  have hI : indexC (fun x : Signed => !setOK x.set.c) l.els = -1 := indexC_no fun j hj => by rw [hall _ (List.getElem_mem hj)]; rfl
  have hJ : ∀ {w : World}, Sat H w → Calls Tryz.prog 121 #[l.v, .func (.func 83) #[] #[]] w (Ret w (intV (-1))) := fun hs => by
    have := c_IndexSignedV l (fun x : Signed => !setOK x.set.c) (cap := #[]) Tryz.call83 _ _ hs hg (fun x hx w hs => capS0 ▸ c_known1 x hs hR (hg.els x hx))
    rw [hI] at this
    exact this
  have hC : ∀ {w : World}, Sat H w → Calls Tryz.prog 82 #[l.v, .func (.func 83) #[] #[]] w (Ret w (.bool false)) := fun {w} hs => by
    refine T.enter (vs := [l.v, .func (.func 83) #[] #[]]) (H := H) Tryz.func82 rfl rfl rfl hs ?_
    repeat (any_goals (first | refine T.seq ?_ | refine T.region ?_ | refine TL.nil ?_ | refine N.next ?_ | refine N.inBlock ?_ | refine N.exit_same ?_ | refine N.exit_then ?_ | refine N.ret_then ?_ | refine N.ret_block ?_ | (apply N.exit_other; rfl) | refine T.ret ?_ | refine T.skip ?_ | refine T.exit ?_ | refine T.block ?_ | (apply T.cond_true; rfl) | (apply T.cond_false; rfl) | (apply T.test; rfl; (exact isx); intro _; rotate_left; intro _; rotate_right) | (apply TL.skip; rfl; rfl; rfl) | (apply TL.skip_none; rfl; rfl) | (apply TL.callE (f := 121) [l.v, .func (.func 83) #[] #[]] Tryz.call121; (iterate 4 rfl); (exact fun _ hs => hJ hs.sat)) | (apply TL.val; rfl; rfl; (first | exact vpure | exact vread)) | (apply TL.x; rfl; rfl; (first | exact xgrow | exact xput); intro _ _) | (apply TL.guard; rfl; rfl; rfl; (exact isx); intro _; rotate_left; intro _; rotate_right)))
    exact N.ret_bool rfl (by (exact rvx)) rfl
  refine T.enter (vs := [l.v]) (H := H) Tryz.func45 rfl rfl rfl hs ?_
  repeat (any_goals (first | refine T.seq ?_ | refine T.region ?_ | refine TL.nil ?_ | refine N.next ?_ | refine N.inBlock ?_ | refine N.exit_same ?_ | refine N.exit_then ?_ | refine N.ret_then ?_ | refine N.ret_block ?_ | (apply N.exit_other; rfl) | refine T.ret ?_ | refine T.skip ?_ | refine T.exit ?_ | refine T.block ?_ | (apply T.cond_true; rfl) | (apply T.cond_false; rfl) | (apply T.test; rfl; (exact isx); intro _; rotate_left; intro _; rotate_right) | (apply TL.skip; rfl; rfl; rfl) | (apply TL.skip_none; rfl; rfl) | (apply TL.callE (f := 82) [l.v, .func (.func 83) #[] #[]] Tryz.call82; (iterate 4 rfl); (exact fun _ hs => hC hs.sat)) | (apply TL.val; rfl; rfl; (first | exact vpure | exact vread)) | (apply TL.x; rfl; rfl; (first | exact xgrow | exact xput); intro _ _) | (apply TL.guard; rfl; rfl; rfl; (exact isx); intro _; rotate_left; intro _; rotate_right)))
  all_goals (try contradiction)
  all_goals (try (exfalso; omega))
  exact N.ret_bool rfl (by (exact rvx)) rfl
/-- What is needed to judge links. -/
structure JudgeV where
  known : Slc Signed
  cm : Nat
  anchor : RSet
  at_ : Int
  drift : Int
instance : Enc JudgeV where
  size := 8
  enc j := [.slice j.known.A j.known.len j.known.cap, .map (some j.cm), strV j.anchor.name, intV j.anchor.typ, intV j.anchor.life, .slice j.anchor.data.A j.anchor.data.len j.anchor.data.cap, intV j.at_, intV j.drift]
  good H j := j.known.Good H ∧ CMap H j.cm j.known.els ∧ Enc.good H j.anchor ∧ I64 j.at_ ∧ I64 j.drift
  len _ := rfl
  mono hle h := ⟨h.1.mono hle, (by obtain ⟨m, h1, h2⟩ := h.2.1; exact ⟨m, hle _ _ h1, h2⟩), Enc.mono hle h.2.2.1, h.2.2.2.1, h.2.2.2.2⟩
  one _ := rfl
  pos := by decide
def kindV (b : Bool) : Int := if b then 1 else 2
theorem c_link1 {H : Hp} {w : World} (hs : Sat H w) : Calls Tryz.prog 94 #[] w (Ret w (.tuple #[intV 2, .agg (enc qNil).toArray])) := by
  refine T.enter (vs := []) (H := H) Tryz.func94 rfl rfl rfl hs ?_
  repeat (any_goals (first | refine T.seq ?_ | refine T.region ?_ | refine TL.nil ?_ | refine N.next ?_ | refine N.inBlock ?_ | refine N.exit_same ?_ | refine N.exit_then ?_ | refine N.ret_then ?_ | refine N.ret_block ?_ | (apply N.exit_other; rfl) | refine T.ret ?_ | refine T.skip ?_ | refine T.exit ?_ | refine T.block ?_ | (apply T.cond_true; rfl) | (apply T.cond_false; rfl) | (apply T.test; rfl; (exact isx); intro _; rotate_left; intro _; rotate_right) | (apply TL.skip; rfl; rfl; rfl) | (apply TL.skip_none; rfl; rfl) | (apply TL.val; rfl; rfl; (apply V.build; (iterate 6 rfl))) | (apply TL.x; rfl; rfl; (apply X.storeTo 0 (enc qNil); (iterate 10 rfl)); intro _ _) | (apply TL.val; rfl; rfl; (first | exact vpure | exact vread)) | (apply TL.x; rfl; rfl; (first | exact xgrow | exact xput); intro _ _) | (apply TL.guard; rfl; rfl; rfl; (exact isx); intro _; rotate_left; intro _; rotate_right)))
  exact N.ret_two rfl (by (exact rvx)) (by (exact rvx)) rfl
set_option maxHeartbeats 4000000 in
theorem c_link2 (j : JudgeV) (s : Signed) (zone : Bytes) (keys : Slc KeyC) {b : Bool} (hb : signedBy s.c zone keys.els j.at_ j.drift = b) {b2 b3 b6 b7 b10 : Nat} {H : Hp} {w : World} (hs : Sat H w) (hR : Rules H) (hj : Enc.good H j) (hsg : Enc.good H s) (hk : keys.Good H) (z2 : H.cells b2 0 (enc j)) (z3 : H.cells b3 0 (enc s)) (z6 : H.cells b6 0 [strV zone]) (z7 : H.cells b7 0 [keys.v]) (z10 : H.cells b10 0 [.func (.func 94) #[] #[]]) : Calls Tryz.prog 95 #[.pointer (some ⟨b3, 0, none⟩), .pointer (some ⟨b6, 0, none⟩), .pointer (some ⟨b7, 0, none⟩), .pointer (some ⟨b2, 0, none⟩), .pointer (some ⟨b10, 0, none⟩)] w (Ret w (.tuple #[intV (kindV b), .agg (enc qNil).toArray])) := by
  have hS : ∀ {w : World}, Sat H w → Calls Tryz.prog 96 #[.agg (enc s).toArray, strV zone, keys.v, intV j.at_, intV j.drift] w (Ret w (.bool b)) := fun hs => hb ▸ c_trustSigned s zone keys j.at_ j.drift H _ hs hR hsg hk
  have hL : ∀ {w : World}, Sat H w → Calls Tryz.prog 94 (#[] ++ ([] : List Value).toArray ++ #[]) w (Ret w (.tuple #[intV 2, .agg (enc qNil).toArray])) := fun hs => c_link1 hs
  refine T.enter (vs := [.pointer (some ⟨b3, 0, none⟩), .pointer (some ⟨b6, 0, none⟩), .pointer (some ⟨b7, 0, none⟩), .pointer (some ⟨b2, 0, none⟩), .pointer (some ⟨b10, 0, none⟩)]) (H := H) Tryz.func95 rfl rfl rfl hs ?_
  repeat (any_goals (first | refine T.seq ?_ | refine T.region ?_ | refine TL.nil ?_ | refine N.next ?_ | refine N.inBlock ?_ | refine N.exit_same ?_ | refine N.exit_then ?_ | refine N.ret_then ?_ | refine N.ret_block ?_ | (apply N.exit_other; rfl) | refine T.ret ?_ | refine T.skip ?_ | refine T.exit ?_ | refine T.block ?_ | (apply T.cond_true; rfl) | (apply T.cond_false; rfl) | (apply T.test; rfl; (exact isx); intro _; rotate_left; intro _; rotate_right) | (apply TL.skip; rfl; rfl; rfl) | (apply TL.skip_none; rfl; rfl) | (apply TL.val; rfl; rfl; (apply V.load_H_row; rfl; rfl; rfl; exact z3; rfl)) | (apply TL.val; rfl; rfl; (apply V.load_H; rfl; rfl; rfl; first | exact z6 0 _ rfl | exact z7 0 _ rfl | exact z10 0 _ rfl | exact z2 6 _ rfl | exact z2 7 _ rfl)) | (apply TL.callE (f := 96) [.agg (enc s).toArray, strV zone, keys.v, intV j.at_, intV j.drift] Tryz.call96; (iterate 4 rfl); (exact fun _ hs => hS hs.sat)) | (apply TL.val; rfl; rfl; (apply V.build; (iterate 6 rfl))) | (apply TL.x; rfl; rfl; (apply X.storeTo 0 (enc qNil); (iterate 10 rfl)); intro _ _) | (apply TL.call (f := 94) (first := #[]) (cap := #[]) (vs := []); (iterate 4 rfl); exact Tryz.call94; exact fun _ hs => hL hs.sat) | (apply TL.val; rfl; rfl; (first | exact vpure | exact vread)) | (apply TL.x; rfl; rfl; (first | exact xgrow | exact xput); intro _ _) | (apply TL.guard; rfl; rfl; rfl; (exact isx); intro _; rotate_left; intro _; rotate_right)))
  all_goals (cases b <;> first | contradiction | exact N.ret_two rfl (by (exact rvx)) (by (exact rvx)) rfl)
set_option maxHeartbeats 8000000 in
/-- A link whose zone has keys. -/
theorem c_linkV (j : JudgeV) (s : Signed) {ks : List KeyC} {b : Bool} (hp : pathC (j.known.els.map Signed.c) j.anchor.c (signerC s.c) j.at_ j.drift = (ks, qNil, 0)) (hb : signedBy s.c (signerC s.c) ks j.at_ j.drift = b) (hu : (underC s.set.name (signerC s.c)).1 = true) (h6 : s.set.typ ≠ 6) (hzl : LenOk (signerC s.c)) {H : Hp} {w : World} (hs : Sat H w) (hR : Rules H) (hj : Enc.good H j) (hsg : Enc.good H s) : Calls Tryz.prog 49 #[.agg (enc j).toArray, .agg (enc s).toArray] w (Ret w (.tuple #[intV (kindV b), .agg (enc qNil).toArray])) := by
  obtain ⟨zone, hz⟩ : ∃ z, signerC s.c = z := ⟨_, rfl⟩
  rw [hz] at hp hb hu hzl
  refine T.enter (vs := [.agg (enc j).toArray, .agg (enc s).toArray]) (H := H) Tryz.func49 rfl rfl rfl hs ?_
  repeat (any_goals (first | refine T.seq ?_ | refine T.region ?_ | refine TL.nil ?_ | refine N.next ?_ | refine N.inBlock ?_ | refine N.exit_same ?_ | refine N.exit_then ?_ | refine N.ret_then ?_ | refine N.ret_block ?_ | (apply N.exit_other; rfl) | refine T.ret ?_ | refine T.skip ?_ | refine T.exit ?_ | refine T.block ?_ | (apply T.cond_true; rfl) | (apply T.cond_false; rfl) | (apply T.test; rfl; (exact isx); intro _; rotate_left; intro _; rotate_right) | (apply TL.skip; rfl; rfl; rfl) | (apply TL.skip_none; rfl; rfl) | (apply TL.x; rfl; rfl; (apply X.box (d := 2); rfl; rfl; rfl); intro b2 _; apply TL.frz 0; rfl; intro H1 z2 hle1) | (apply TL.x; rfl; rfl; (apply X.box (d := 3); rfl; rfl; rfl); intro b3 _; apply TL.frz 0; rfl; intro H2 z3 hle2; have hR := hR.mono (hle1.trans hle2); have hj := Enc.mono (hle1.trans hle2) hj; have hsg := Enc.mono (hle1.trans hle2) hsg; have z2 := z2.le hle2) | (apply TL.x; rfl; rfl; (apply X.alloc (d := 5); rfl; rfl; rfl); intro b5 _) | (apply TL.val; rfl; rfl; (apply V.load_H_row; rfl; rfl; rfl; (first | exact z3 | exact cells_take (cells_drop z2 2) 4); rfl)) | (apply TL.callE (f := 88) [.agg (enc s).toArray] Tryz.call88; (iterate 4 rfl); (exact fun _ hs => hz ▸ c_signer s hs.sat hsg)) | (apply TL.x; rfl; rfl; (apply X.alloc (d := 6); rfl; rfl; rfl); intro b6 _) | (apply TL.x; rfl; rfl; (apply X.storeTo 0 [strV zone]; (iterate 10 rfl)); intro _ _; apply TL.frz 0; rfl; intro H3 z6 hle3; have hR := hR.mono hle3; have hj := Enc.mono hle3 hj; have hsg := Enc.mono hle3 hsg; have z2 := z2.le hle3; have z3 := z3.le hle3) | (apply TL.val; rfl; rfl; (apply V.load_H; rfl; rfl; rfl; first | exact z3 0 _ rfl | exact z3 1 _ rfl | exact z2 0 _ rfl | exact z2 6 _ rfl | exact z2 7 _ rfl | exact z6 0 _ rfl)) | (apply TL.callE (f := 40) [strV s.set.name, strV zone] Tryz.call40; (iterate 4 rfl); (exact fun _ hs => hu ▸ c_vunder s.set.name zone _ _ hs.sat hsg.1.1 hzl)) | (apply TL.val; rfl; rfl; (apply V.eqlF h6; rfl; rfl)) | (apply TL.x; rfl; rfl; (apply X.callFE (f := 93) [j.known.v, .agg (enc j.anchor).toArray, strV zone, intV j.at_, intV j.drift] Tryz.call93; rfl; rfl; rfl; exact (fun _ hs => c_PathV j.known j.anchor zone j.at_ j.drift hp hs.sat hR hj.1 hj.2.2.1 hzl hj.2.2.2.1 hj.2.2.2.2)); intro p hp; obtain ⟨⟨hp1, hp2, hp3⟩, hp4⟩ := hp; have hR := hR.mono hp4; have hj := Enc.mono hp4 hj; have hsg := Enc.mono hp4 hsg; have z2 := z2.le hp4; have z3 := z3.le hp4; have z6 := z6.le hp4) | (apply TL.x; rfl; rfl; (apply X.alloc (d := 7); rfl; rfl; rfl); intro b7 _) | (apply TL.x; rfl; rfl; (apply X.alloc (d := 8); rfl; rfl; rfl); intro b8 _) | (apply TL.x; rfl; rfl; (apply X.storeTo 1 [p.2.v]; (iterate 10 rfl)); intro _ _; apply TL.frz 1; rfl; intro H4 z7 hle4; have hR := hR.mono hle4; have hj := Enc.mono hle4 hj; have hsg := Enc.mono hle4 hsg; have z2 := z2.le hle4; have z3 := z3.le hle4; have z6 := z6.le hle4; have hp2 := hp2.mono hle4) | (apply TL.x; rfl; rfl; (apply X.storeTo 0 (enc qNil); (iterate 10 rfl)); intro _ _) | (apply TL.x; rfl; rfl; (apply X.alloc (d := 10); rfl; rfl; rfl); intro b10 _) | (apply TL.x; rfl; rfl; (apply X.storeTo 0 [.func (.func 94) #[] #[]]; (iterate 10 rfl)); intro _ _; apply TL.frz 0; rfl; intro H5 z10 hle5; have hR := hR.mono hle5; have hj := Enc.mono hle5 hj; have hsg := Enc.mono hle5 hsg; have z2 := z2.le hle5; have z3 := z3.le hle5; have z6 := z6.le hle5; have z7 := z7.le hle5; have hp2 := hp2.mono hle5) | (apply TL.x; rfl; rfl; (apply X.makeMap (fun a : Int => .int .i64 a); rfl); intro bm _) | (apply TL.val; rfl; rfl; ((apply V.makeFunc (vs := []) (us := [_, _, _, _, _]) <;> rfl))) | (apply TL.val; rfl; rfl; ((apply V.makeFunc (vs := []) (us := [_]) <;> rfl))) | (apply TL.val; rfl; rfl; (apply V.load_H; rfl; rfl; rfl; exact z10 0 _ rfl)) | (apply TL.x; rfl; rfl; (apply X.minsert 0 (0 : Int); rfl; rfl; exact keyI Tryz.underlying34; (iterate 5 rfl)); intro _ _) | (apply TL.x; rfl; rfl; (apply X.minsert 0 (4 : Int); rfl; rfl; exact keyI Tryz.underlying34; (iterate 5 rfl)); intro _ _) | (apply TL.x; rfl; rfl; (apply X.minsert 0 (31 : Int); rfl; rfl; exact keyI Tryz.underlying34; (iterate 5 rfl)); intro _ _) | (apply TL.x; rfl; rfl; (apply X.minsert 0 (1 : Int); rfl; rfl; exact keyI Tryz.underlying34; (iterate 5 rfl)); intro _ _) | (apply TL.val; rfl; rfl; (apply V.mlookupOk (0 : Int) (c := .func (.func 95) #[] #[.pointer (some ⟨b3, 0, none⟩), .pointer (some ⟨b6, 0, none⟩), .pointer (some ⟨b7, 0, none⟩), .pointer (some ⟨b2, 0, none⟩), .pointer (some ⟨b10, 0, none⟩)]) (f := true); rfl; rfl; rfl; exact keyI Tryz.underlying34; rfl; rfl; exact List.Mem.head _; rfl; rfl)) | (apply TL.call (f := 95) (first := #[]) (vs := []); (iterate 4 rfl); exact Tryz.call95; exact fun _ hs => c_link2 j s zone p.2 (b := b) (by rw [hp1]; exact hb) hs.sat hR hj hsg hp2 z2 z3 z6 z7 z10) | (apply TL.x; rfl; rfl; (apply X.storeTo 2 (enc qNil); (iterate 10 rfl)); intro _ _) | (apply TL.val; rfl; rfl; (first | exact vpure | exact vread)) | (apply TL.x; rfl; rfl; (first | exact xgrow | exact xput); intro _ _) | (apply TL.guard; rfl; rfl; rfl; (exact isx); intro _; rotate_left; intro _; rotate_right)))
  all_goals (try contradiction)
  all_goals exact N.ret_two rfl (by (exact rvx)) (by (exact rvx)) rfl
end Go.Proofs.YtpnoabbdcakjkaaGreatDoor
set_option pp.deepTerms true
set_option pp.maxSteps 10000000
namespace Go.Proofs.YtpnoabbdcakjkaaGreatDoor
set_option linter.unusedVariables false
set_option linter.unusedSimpArgs false
open Go Go.RowKit
open Enc (enc)
set_option maxRecDepth 20000
/-- A link that was found. -/
structure FoundV where
  kind : Int
  set : Signed
  q : Question
instance : Enc FoundV where
  size := 8
  enc f := [intV f.kind, strV f.set.set.name, intV f.set.set.typ, intV f.set.set.life, .slice f.set.set.data.A f.set.set.data.len f.set.set.data.cap, .slice f.set.sigs.A f.set.sigs.len f.set.sigs.cap, strV f.q.name, intV f.q.typ]
  good H f := I64 f.kind ∧ Enc.good H f.set ∧ Enc.good H f.q
  len _ := rfl
  mono hle h := ⟨h.1, Enc.mono hle h.2.1, Enc.mono hle h.2.2⟩
  one _ := rfl
  pos := by decide
theorem c_vlinks (j : JudgeV) (q : Question) {H : Hp} {w : World} (hs : Sat H w) : Calls Tryz.prog 48 #[.agg (enc j).toArray, .agg (enc q).toArray] w (RetF w H (fun g : Hp × Nat × Nat => g.1.cells g.2.1 0 (enc j) ∧ g.1.cells g.2.2 0 (enc q)) (fun g => .func (.func 89) #[] #[.pointer (some ⟨g.2.1, 0, none⟩), .pointer (some ⟨g.2.2, 0, none⟩)]) (fun g => g.1)) := by
  refine T.enter (vs := [.agg (enc j).toArray, .agg (enc q).toArray]) (H := H) Tryz.func48 rfl rfl rfl hs ?_
  repeat (any_goals (first | refine T.seq ?_ | refine T.region ?_ | refine TL.nil ?_ | refine N.next ?_ | refine N.inBlock ?_ | refine N.exit_same ?_ | refine N.exit_then ?_ | refine N.ret_then ?_ | refine N.ret_block ?_ | (apply N.exit_other; rfl) | refine T.ret ?_ | refine T.skip ?_ | refine T.exit ?_ | refine T.block ?_ | (apply T.cond_true; rfl) | (apply T.cond_false; rfl) | (apply T.test; rfl; (exact isx); intro _; rotate_left; intro _; rotate_right) | (apply TL.skip; rfl; rfl; rfl) | (apply TL.skip_none; rfl; rfl) | (apply TL.val; rfl; rfl; ((apply V.makeFunc (vs := []) (us := [_, _]) <;> rfl))) | (apply TL.val; rfl; rfl; (first | exact vpure | exact vread)) | (apply TL.x; rfl; rfl; (first | exact xgrow | exact xput); intro _ _) | (apply TL.guard; rfl; rfl; rfl; (exact isx); intro _; rotate_left; intro _; rotate_right)))
  rename_i b2 _ b3 _
  refine N.ret1 rfl (by (exact rvx)) fun w1 hst => ?_
  obtain ⟨H1, c1, l1, s1⟩ := St.frz hst
  obtain ⟨H2, c2, l2, s2⟩ := St.frz s1
  exact ⟨(H2, b2, b3), ⟨c2, Hp.cells_le l2 c1⟩, rfl, s2.fresh⟩
set_option maxHeartbeats 2000000 in
/-- Where the set of the question is counted, it is the one link. -/
theorem c_links1 (j : JudgeV) (q : Question) {s : Signed} (hc : countedF j.known.els q = some s) {b2 b3 rl : Nat} {G : Type} {φ : Bool → G → Prop} {HH : G → Hp} {LL : Option G → List Loc} {w0 : World} {H0 H : Hp} (hj : Enc.good H j) (z2 : H.cells b2 0 (enc j)) (z3 : H.cells b3 0 (enc q))
    (hy : ∀ w, St w0 H0 H (LL none) w → YieldAt (FW none) 0 Tryz.prog rl #[.agg (enc (⟨0, s, qNil⟩ : FoundV)).toArray] w (fun e w' => ∃ b g, e = .returned (.bool b) ∧ φ b g ∧ St w0 H0 (HH g) (LL (some g)) w')) {w : World} (hs : St w0 H0 H (LL none) w) :
    CallsIn (FW none) 0 Tryz.prog 89 #[.func (.yield rl) #[] #[], .pointer (some ⟨b2, 0, none⟩), .pointer (some ⟨b3, 0, none⟩)] w (fun e w' => ∃ v b g, e = .returned v ∧ φ b g ∧ St w0 H0 (HH g) (LL (some g)) w') := by
  obtain ⟨m, hm, hget⟩ := hj.2.1
  have hq := hget q
  rw [hc] at hq
  refine T.enterIn (vs := [.func (.yield rl) #[] #[], .pointer (some ⟨b2, 0, none⟩), .pointer (some ⟨b3, 0, none⟩)]) Tryz.func89 rfl rfl rfl hs ?_
  repeat (any_goals (first | refine T.seq ?_ | refine T.region ?_ | refine TL.nil ?_ | refine N.next ?_ | refine N.inBlock ?_ | refine N.exit_same ?_ | refine N.exit_then ?_ | refine N.ret_then ?_ | refine N.ret_block ?_ | (apply N.exit_other; rfl) | refine T.ret ?_ | refine T.skip ?_ | refine T.exit ?_ | refine T.block ?_ | (apply T.cond_true; rfl) | (apply T.cond_false; rfl) | (apply T.test; rfl; (exact isx); intro _; rotate_left; intro _; rotate_right) | (apply TL.skip; rfl; rfl; rfl) | (apply TL.skip_none; rfl; rfl) | (apply TL.val; rfl; rfl; (first | exact vpure | exact vread)) | (apply TL.x; rfl; rfl; (first | exact xgrow | exact xput); intro _ _) | (apply TL.guard; rfl; rfl; rfl; (exact isx); intro _; rotate_left; intro _; rotate_right)))
  refine T.loop (G := Unit) (fun _ => [(0, .func (.yield rl) #[] #[]), (1, .pointer (some ⟨b2, 0, none⟩)), (2, .pointer (some ⟨b3, 0, none⟩))]) (fun _ => H) (fun _ => LL none) (fun _ => True) (fun _ => 0) () trivial (by (repeat (first | exact True.intro | refine ⟨rfl, ?_⟩ | refine Sub.int rfl (by omega) ?_))) rfl (List.Sublist.refl _) ?_
  intro _ _
  repeat (any_goals (first | refine T.seq ?_ | refine T.region ?_ | refine TL.nil ?_ | refine N.next ?_ | refine N.inBlock ?_ | refine N.exit_same ?_ | refine N.exit_then ?_ | refine N.ret_then ?_ | refine N.ret_block ?_ | (apply N.exit_other; rfl) | refine T.ret ?_ | refine T.skip ?_ | refine T.exit ?_ | refine T.block ?_ | (apply T.cond_true; rfl) | (apply T.cond_false; rfl) | (apply T.test; rfl; (exact isx); intro _; rotate_left; intro _; rotate_right) | (apply TL.skip; rfl; rfl; rfl) | (apply TL.skip_none; rfl; rfl) | (apply TL.val; rfl; rfl; (apply V.load_H; rfl; rfl; rfl; exact z2 1 _ rfl)) | (apply TL.val; rfl; rfl; (apply V.load_H_row; rfl; rfl; rfl; exact z3; rfl)) | (apply TL.val; rfl; rfl; (apply V.mlookupOkH q (c := sgV s) (f := true) (l := m); rfl; rfl; rfl; exact key_q; rfl; rfl; exact hm; (rw [hq]; rfl); (rw [hq]; rfl))) | (apply TL.x; rfl; rfl; (apply X.storeTo 0 (enc s); (iterate 10 rfl)); intro _ _) | (apply TL.val; rfl; rfl; (apply V.build; (iterate 6 rfl))) | (apply TL.yield; (iterate 4 rfl); (exact fun w hs => hy w (hs.sub (List.sublist_cons_self _ _))); intro b g' hb) | (apply TL.val; rfl; rfl; (first | exact vpure | exact vread)) | (apply TL.x; rfl; rfl; (first | exact xgrow | exact xput); intro _ _) | (apply TL.guard; rfl; rfl; rfl; (exact isx); intro _; rotate_left; intro _; rotate_right)))
  all_goals (try contradiction)
  exact N.ret0 rfl fun w hs => ⟨_, b, g', rfl, hb, hs⟩
theorem c_countJ (l : Slc Signed) {H : Hp} {w : World} (hs : Sat H w) (hg : l.Good H) : Calls Tryz.prog 47 #[l.v] w (RetF w H (fun p : Hp × Nat => CMap p.1 p.2 l.els) (fun p => .map (some p.2)) (fun p => p.1)) := c_count l H w hs hg
theorem c_rvV (s : RSet) {v : Bool} (h : setOK s.c = v) {H : Hp} {w : World} (hs : Sat H w) (hR : Rules H) (hg : Enc.good H s) : Calls Tryz.prog 46 #[.agg (enc s).toArray] w (Ret w (.bool v)) := h ▸ c_recordValid s H w hs hR hg
theorem c_vqV (q : Question) {v : Bool} (h : questionOK q = v) {H : Hp} {w : World} (hs : Sat H w) (hg : Enc.good H q) : Calls Tryz.prog 38 #[.agg (enc q).toArray] w (Ret w (.bool v)) := h ▸ c_vquestion q H w hs hg
structure JudgeIn (known : Slc Signed) (anchor : RSet) (q : Question) (at_ drift : Int) (s : Signed) (ks : List KeyC) (b : Bool) : Prop where
  sets : ∀ x ∈ known.els, setOK x.set.c = true
  few : known.len ≤ 400
  anch : setOK anchor.c = true
  a6 : anchor.typ = 6
  root : anchor.name = [46]
  ask : questionOK q = true
  time : 0 ≤ at_ ∧ at_ ≤ 10000000
  dr : 0 ≤ drift ∧ drift ≤ 1000
  has : countedF known.els q = some s
  mem : s ∈ known.els
  path : pathC (known.els.map Signed.c) anchor.c (signerC s.c) at_ drift = (ks, qNil, 0)
  by_ : signedBy s.c (signerC s.c) ks at_ drift = b
  und : (underC s.set.name (signerC s.c)).1 = true
  n6 : s.set.typ ≠ 6
  sl : LenOk (signerC s.c)
  d1 : s.set.data.len ≤ 1000
  d2 : s.sigs.len ≤ 1000
def jLT (rd : LoopState → Option Code → Loop) (b b10 b11 b12 b13 : Nat) (j : JudgeV) : Option (Hp × Nat × Nat × List Value) → List Loc
  | none => [.any (b + 1) (.loop (rd .ready none)), .any b (.deferred (some [])), .row (.slice none 0 0) 69 5 0 [], .blk b13 25 [.slice none 0 0], .blk b12 120 (enc j), .blk b11 34 [intV 0], .blk b10 74 [intV 0, strV [], intV 0, .slice none 0 0]]
  | some g => [.any (b + 1) (.loop (rd .ready none)), .any b (.deferred (some [])), .row (.slice (some ⟨g.2.1, 0, none⟩) 1 g.2.2.1) 69 5 1 g.2.2.2, .blk b13 25 [.slice (some ⟨g.2.1, 0, none⟩) 1 g.2.2.1], .blk b11 34 [intV 0], .blk b10 74 [intV 0, strV [], intV 0, .slice none 0 0]]
def jLF (rd : LoopState → Option Code → Loop) (b b10 b11 b12 b13 : Nat) (j : JudgeV) : Option Hp → List Loc
  | none => [.any (b + 1) (.loop (rd .ready none)), .any b (.deferred (some [])), .blk b13 25 [.slice none 0 0], .blk b12 120 (enc j), .blk b11 34 [intV 0], .blk b10 74 [intV 0, strV [], intV 0, .slice none 0 0]]
  | some _ => [.any (b + 1) (.loop (rd .done (some .ret))), .any b (.deferred (some [])), .blk b11 34 [intV 0], .blk b10 74 [intV 2, strV [], intV 0, .slice none 0 0]]
set_option maxHeartbeats 8000000 in
theorem c_JudgeV (known : Slc Signed) (anchor : RSet) (q : Question) (at_ drift : Int) {s : Signed} {ks : List KeyC} {b : Bool} (I : JudgeIn known anchor q at_ drift s ks b) {H : Hp} {w : World} (hs : Sat H w) (hR : Rules H) (hk : known.Good H) (ha : Enc.good H anchor) (hq : Enc.good H q) : Calls Tryz.prog 16 #[known.v, .agg (enc anchor).toArray, .agg (enc q).toArray, intV at_, intV drift] w
    (RetF w H (fun _ : Hp × Option Addr × Nat => True) (fun g => .tuple #[.agg #[intV (kindV b), strV [], intV 0, .slice g.2.1 (if b = true then 1 else 0) g.2.2], intV 0]) (fun g => g.1)) := by
  obtain ⟨i1, i2, i3, i4, i5, i6, i7, i8, i9, im, i10, i11, i12, i13, i14, i15, i16⟩ := I
  refine T.enterM (vs := [known.v, .agg (enc anchor).toArray, .agg (enc q).toArray, intV at_, intV drift]) (H := H) Tryz.func16 rfl rfl rfl hs ?_
  repeat (any_goals (first | (apply T.seqU 6; rfl) | refine T.region ?_ | (apply T.regionD wide; rfl) | refine TL.nil ?_ | refine N.next ?_ | refine N.inBlock ?_ | refine N.exit_same ?_ | refine N.exit_then ?_ | refine N.ret_then ?_ | refine N.ret_block ?_ | (apply N.exit_other; rfl) | refine T.ret ?_ | refine T.skip ?_ | refine T.exit ?_ | refine T.block ?_ | (apply T.cond_true; rfl) | (apply T.cond_false; rfl) | (apply T.test; rfl; (exact isx); intro _; rotate_left; intro _; rotate_right) | (apply TL.skip; rfl; rfl; rfl) | (apply TL.skip_none; rfl; rfl) | (apply GT.skip; rfl; rfl; rfl; decide +kernel) | (apply TL.x; rfl; rfl; (apply X.box (d := 6); rfl; rfl; rfl); intro b6 _) | (apply TL.x; rfl; rfl; (apply X.box (d := 7); rfl; rfl; rfl); intro b7 _) | (apply TL.x; rfl; rfl; (apply X.alloc (d := 10); rfl; rfl; rfl); intro b10 _) | (apply TL.x; rfl; rfl; (apply X.alloc (d := 11); rfl; rfl; rfl); intro b11 _) | (apply TL.callE (f := 45) [known.v] Tryz.call45; (iterate 4 rfl); (exact fun _ hs => c_vknownOK known i1 i2 hs.sat hR hk)) | (apply GT.callE (f := 45) [known.v] Tryz.call45; (iterate 6 rfl); (exact fun _ hs => c_vknownOK known i1 i2 hs.sat hR hk); decide +kernel) | (apply TL.callE (f := 46) [.agg (enc anchor).toArray] Tryz.call46; (iterate 4 rfl); (exact fun _ hs => c_rvV anchor i3 hs.sat hR ha)) | (apply GT.callE (f := 46) [.agg (enc anchor).toArray] Tryz.call46; (iterate 6 rfl); (exact fun _ hs => c_rvV anchor i3 hs.sat hR ha); decide +kernel) | (apply TL.callE (f := 38) [.agg (enc q).toArray] Tryz.call38; (iterate 4 rfl); (exact fun _ hs => c_vqV q i6 hs.sat hq)) | (apply GT.callE (f := 38) [.agg (enc q).toArray] Tryz.call38; (iterate 6 rfl); (exact fun _ hs => c_vqV q i6 hs.sat hq); decide +kernel) | (apply TL.val; rfl; rfl; (first | exact vpure | exact vread)) | (apply GT.pure; (iterate 4 rfl); (first | exact vpure); decide +kernel) | (apply GT.read; (iterate 4 rfl); (first | exact vpure | exact vread); decide +kernel) | (apply GT.done; decide +kernel; apply N.ofQ) | (apply GT.adv; rfl) | (apply TL.x; rfl; rfl; (first | exact xgrow | exact xput); intro _ _) | (apply GS.grow; rfl; rfl; (first | exact xgrow); intro _ _) | (apply GS.eff; rfl; decide +kernel; rfl; (first | exact xput); intro _ _) | (apply TL.guard; rfl; rfl; rfl; (exact isx); intro _; rotate_left; intro _; rotate_right) | (apply GT.guard; (iterate 4 rfl); (exact isx); intro _; rotate_left; intro _; rotate_right) | (apply GT.fork1; decide +kernel) | (apply GT.fork2 1; decide +kernel) | (apply GT.fork2 2; decide +kernel) | (apply GT.fork2 3; decide +kernel) | (apply GT.fork2 4; decide +kernel) | (apply GT.fork2 5; decide +kernel) | (apply GT.fork2 6; decide +kernel) | (apply GT.fork2 7; decide +kernel) | (apply GT.fork2 8; decide +kernel) | (apply GT.fork2 9; decide +kernel) | (apply GT.fork2 10; decide +kernel) | (apply GT.fork2 11; decide +kernel) | (apply GT.fork2 12; decide +kernel) | (apply GT.fork2 13; decide +kernel) | (apply GT.fork2 14; decide +kernel)))
  all_goals (try contradiction)
  all_goals (try (exfalso; omega))
  refine T.cut (G := Hp × Nat × Nat) (fun g => [(7, .pointer (some ⟨b7, 0, none⟩)), (10, .pointer (some ⟨b10, 0, none⟩)), (11, .pointer (some ⟨b11, 0, none⟩)), (12, .pointer (some ⟨g.2.2, 0, none⟩))]) (fun g => g.1) (fun g => [.blk g.2.2 120 (enc (⟨known, g.2.1, anchor, at_, drift⟩ : JudgeV)), .blk b11 34 [intV 0], .blk b10 74 [intV 0, strV [], intV 0, .slice none 0 0], .blk b7 23 (enc q)]) (fun g => H.le g.1 ∧ CMap g.1 g.2.1 known.els) ?_ ?_
  · repeat (any_goals (first | refine T.seq ?_ | refine T.region ?_ | (apply T.regionD wide; rfl) | refine TL.nil ?_ | refine N.next ?_ | refine N.inBlock ?_ | refine N.exit_same ?_ | refine N.exit_then ?_ | refine N.ret_then ?_ | refine N.ret_block ?_ | (apply N.exit_other; rfl) | refine T.ret ?_ | refine T.skip ?_ | refine T.exit ?_ | refine T.block ?_ | (apply T.cond_true; rfl) | (apply T.cond_false; rfl) | (apply T.test; rfl; (exact isx); intro _; rotate_left; intro _; rotate_right) | (apply TL.skip; rfl; rfl; rfl) | (apply TL.skip_none; rfl; rfl) | (apply GT.skip; rfl; rfl; rfl; decide +kernel) | (apply GS.grow; rfl; rfl; (apply X.callFE (f := 47) [known.v] Tryz.call47; rfl; rfl; rfl; exact (fun _ hs => c_countJ known hs.sat hk)); intro cp hcp) | (apply GS.grow; rfl; rfl; (apply X.alloc (d := 12); rfl; rfl; rfl); intro b12 _) | (apply TL.val; rfl; rfl; (apply V.build; (iterate 6 rfl))) | (apply GT.pure; (iterate 4 rfl); (apply V.build; (iterate 6 rfl)); decide +kernel) | (apply GT.read; (iterate 4 rfl); (apply V.build; (iterate 6 rfl)); decide +kernel) | (apply TL.x; rfl; rfl; (apply X.storeTo 0 (enc (⟨known, cp.2, anchor, at_, drift⟩ : JudgeV)); (iterate 10 rfl)); intro _ _) | (apply GS.eff; rfl; decide +kernel; rfl; (apply X.storeTo 0 (enc (⟨known, cp.2, anchor, at_, drift⟩ : JudgeV)); (iterate 10 rfl)); intro _ _) | (apply TL.val; rfl; rfl; (first | exact vpure | exact vread)) | (apply GT.pure; (iterate 4 rfl); (first | exact vpure); decide +kernel) | (apply GT.read; (iterate 4 rfl); (first | exact vpure | exact vread); decide +kernel) | (apply GT.done; decide +kernel; apply N.ofQ) | (apply GT.adv; rfl) | (apply TL.x; rfl; rfl; (first | exact xgrow | exact xput); intro _ _) | (apply GS.grow; rfl; rfl; (first | exact xgrow); intro _ _) | (apply GS.eff; rfl; decide +kernel; rfl; (first | exact xput); intro _ _) | (apply GT.pureAt 1; (iterate 4 rfl); (first | exact vpure); decide +kernel) | (apply GT.readAt 1; (iterate 4 rfl); (first | exact vpure | exact vread); decide +kernel) | (apply GT.pureAt 2; (iterate 4 rfl); (first | exact vpure); decide +kernel) | (apply GT.readAt 2; (iterate 4 rfl); (first | exact vpure | exact vread); decide +kernel) | (apply GT.pureAt 3; (iterate 4 rfl); (first | exact vpure); decide +kernel) | (apply GT.readAt 3; (iterate 4 rfl); (first | exact vpure | exact vread); decide +kernel) | (apply GT.pureAt 4; (iterate 4 rfl); (first | exact vpure); decide +kernel) | (apply GT.readAt 4; (iterate 4 rfl); (first | exact vpure | exact vread); decide +kernel) | (apply GT.pureAt 5; (iterate 4 rfl); (first | exact vpure); decide +kernel) | (apply GT.readAt 5; (iterate 4 rfl); (first | exact vpure | exact vread); decide +kernel) | (apply GT.pureAt 6; (iterate 4 rfl); (first | exact vpure); decide +kernel) | (apply GT.readAt 6; (iterate 4 rfl); (first | exact vpure | exact vread); decide +kernel) | (apply GT.pureAt 7; (iterate 4 rfl); (first | exact vpure); decide +kernel) | (apply GT.readAt 7; (iterate 4 rfl); (first | exact vpure | exact vread); decide +kernel) | (apply TL.guard; rfl; rfl; rfl; (exact isx); intro _; rotate_left; intro _; rotate_right) | (apply GT.guard; (iterate 4 rfl); (exact isx); intro _; rotate_left; intro _; rotate_right) | (apply GT.fork1; decide +kernel) | (apply GT.fork2 1; decide +kernel) | (apply GT.fork2 2; decide +kernel) | (apply GT.fork2 3; decide +kernel) | (apply GT.fork2 4; decide +kernel) | (apply GT.fork2 5; decide +kernel) | (apply GT.fork2 6; decide +kernel) | (apply GT.fork2 7; decide +kernel) | (apply GT.fork2 8; decide +kernel) | (apply GT.fork2 9; decide +kernel) | (apply GT.fork2 10; decide +kernel) | (apply GT.fork2 11; decide +kernel) | (apply GT.fork2 12; decide +kernel) | (apply GT.fork2 13; decide +kernel) | (apply GT.fork2 14; decide +kernel)))
    all_goals exact N.cut (cp.1, cp.2, b12) ⟨hcp.2, hcp.1⟩ (by (repeat (first | exact True.intro | refine ⟨rfl, ?_⟩ | refine Sub.int rfl (by omega) ?_))) rfl (by (repeat (first | exact List.Sublist.refl _ | exact List.nil_sublist _ | apply List.Sublist.cons_cons | apply List.Sublist.cons)))
  rintro ⟨H1, cm, b12⟩ ⟨hle1, hcm⟩
  simp only at hle1 hcm ⊢
  obtain ⟨j, hjd⟩ : ∃ j : JudgeV, j = ⟨known, cm, anchor, at_, drift⟩ := ⟨_, rfl⟩
  rw [← hjd]
  have hj : Enc.good H1 j := by
    rw [hjd]
    exact ⟨hk.mono hle1, hcm, Enc.mono hle1 ha, ⟨by show _ ≤ at_; omega, by show at_ ≤ _; omega⟩, ⟨by show _ ≤ drift; omega, by show drift ≤ _; omega⟩⟩
  have hjk : j.known = known := by rw [hjd]
  have hja : j.anchor = anchor := by rw [hjd]
  have hjt : j.at_ = at_ := by rw [hjd]
  have hjr : j.drift = drift := by rw [hjd]
  clear hjd
  rw [← hjk] at i9 im i10
  rw [← hja, ← hjt, ← hjr] at i10
  rw [← hjt, ← hjr] at i11
  have hsg : Enc.good H1 s := hj.1.els _ im
  have hR1 := hR.mono hle1
  repeat (any_goals (first | refine T.seq ?_ | refine T.region ?_ | (apply T.regionD wide; rfl) | refine TL.nil ?_ | refine N.next ?_ | refine N.inBlock ?_ | refine N.exit_same ?_ | refine N.exit_then ?_ | refine N.ret_then ?_ | refine N.ret_block ?_ | (apply N.exit_other; rfl) | refine T.ret ?_ | refine T.skip ?_ | refine T.exit ?_ | refine T.block ?_ | (apply T.cond_true; rfl) | (apply T.cond_false; rfl) | (apply T.test; rfl; (exact isx); intro _; rotate_left; intro _; rotate_right) | (apply TL.skip; rfl; rfl; rfl) | (apply TL.skip_none; rfl; rfl) | (apply GT.skip; rfl; rfl; rfl; decide +kernel) | (apply TL.x; rfl; rfl; (apply X.alloc (d := 13); rfl; rfl; rfl); intro b13 _) | (apply TL.x; rfl; rfl; (apply X.callFE (f := 48) [.agg (enc j).toArray, .agg (enc q).toArray] Tryz.call48; rfl; rfl; rfl; exact (fun _ hs => c_vlinks j q hs.sat)); rintro ⟨H2, b2, b3⟩ ⟨⟨z2, z3⟩, hle2⟩; simp only at z2 z3 hle2) | (apply TL.val; rfl; rfl; (first | exact vpure | exact vread)) | (apply GT.pure; (iterate 4 rfl); (first | exact vpure); decide +kernel) | (apply GT.read; (iterate 4 rfl); (first | exact vpure | exact vread); decide +kernel) | (apply GT.done; decide +kernel; apply N.ofQ) | (apply GT.adv; rfl) | (apply TL.x; rfl; rfl; (first | exact xgrow | exact xput); intro _ _) | (apply GS.grow; rfl; rfl; (first | exact xgrow); intro _ _) | (apply GS.eff; rfl; decide +kernel; rfl; (first | exact xput); intro _ _) | (apply TL.guard; rfl; rfl; rfl; (exact isx); intro _; rotate_left; intro _; rotate_right) | (apply GT.guard; (iterate 4 rfl); (exact isx); intro _; rotate_left; intro _; rotate_right) | (apply GT.fork1; decide +kernel) | (apply GT.fork2 1; decide +kernel) | (apply GT.fork2 2; decide +kernel) | (apply GT.fork2 3; decide +kernel) | (apply GT.fork2 4; decide +kernel) | (apply GT.fork2 5; decide +kernel) | (apply GT.fork2 6; decide +kernel) | (apply GT.fork2 7; decide +kernel) | (apply GT.fork2 8; decide +kernel) | (apply GT.fork2 9; decide +kernel) | (apply GT.fork2 10; decide +kernel) | (apply GT.fork2 11; decide +kernel) | (apply GT.fork2 12; decide +kernel) | (apply GT.fork2 13; decide +kernel) | (apply GT.fork2 14; decide +kernel)))
  simp only
  have hj2 := Enc.mono hle2 hj
  have hsg2 := Enc.mono hle2 hsg
  have hR2 := hR1.mono hle2
  cases b with
  | true =>
    refine T.nilRow 69 5 ?_
    refine T.rangeFunc (G := Hp × Nat × Nat × List Value) (fun _ => .normal) (fun g => g.1) (fun g => [.row (.slice (some ⟨g.2.1, 0, none⟩) 1 g.2.2.1) 69 5 1 g.2.2.2, .blk b13 25 [.slice (some ⟨g.2.1, 0, none⟩) 1 g.2.2.1], .blk b11 34 [intV 0], .blk b10 74 [intV 0, strV [], intV 0, .slice none 0 0]]) (fun _ => True) rfl Tryz.call89 (fun _ _ => trivial) ?_ ?_
    · intro fn a b hf w1 hs1
      have hs1' := hs1.sub (L' := jLT (recd fn a.tmps _ _ _ b) b b10 b11 b12 b13 j none) (by unfold jLT; (repeat (first | exact List.Sublist.refl _ | exact List.nil_sublist _ | apply List.Sublist.cons_cons | apply List.Sublist.cons)))
      refine (c_links1 j q i9 hj2 z2 z3 (G := Hp × Nat × Nat × List Value) (φ := fun _ _ => True) (HH := fun g => g.1) (LL := jLT (recd fn a.tmps _ _ _ b) b b10 b11 b12 b13 j) ?_ hs1').mono ?_
      · intro w2 hs2
        simp only [jLT] at hs2
        refine yieldAt_ofG (j := 1) (G := Nat) (fun b14 => [(10, .pointer (some ⟨b10, 0, none⟩)), (11, .pointer (some ⟨b11, 0, none⟩)), (12, .pointer (some ⟨b12, 0, none⟩)), (13, .pointer (some ⟨b13, 0, none⟩)), (14, .pointer (some ⟨b14, 0, none⟩))]) (fun b14 => [.blk b14 125 (enc (⟨0, s, qNil⟩ : FoundV)), .any (b + 1) (.loop (recd fn a.tmps _ _ _ b .ready none)), .any b (.deferred (some [])), .row (.slice none 0 0) 69 5 0 [], .blk b13 25 [.slice none 0 0], .blk b12 120 (enc j), .blk b11 34 [intV 0], .blk b10 74 [intV 0, strV [], intV 0, .slice none 0 0]]) (i := 0) hs2 rfl (fun _ => rfl) rfl _ (Fr.round1 hf rfl) ?_ ?_
        · repeat (any_goals (first | refine T.seq ?_ | refine T.region ?_ | (apply T.regionD wide; rfl) | refine TL.nil ?_ | refine N.next ?_ | refine N.inBlock ?_ | refine N.exit_same ?_ | refine N.exit_then ?_ | refine N.ret_then ?_ | refine N.ret_block ?_ | (apply N.exit_other; rfl) | refine T.ret ?_ | refine T.skip ?_ | refine T.exit ?_ | refine T.block ?_ | (apply T.cond_true; rfl) | (apply T.cond_false; rfl) | (apply T.test; rfl; (exact isx); intro _; rotate_left; intro _; rotate_right) | (apply TL.skip; rfl; rfl; rfl) | (apply TL.skip_none; rfl; rfl) | (apply GT.skip; rfl; rfl; rfl; decide +kernel) | (apply TL.x; rfl; rfl; (apply X.storeTo 0 (enc (⟨0, s, qNil⟩ : FoundV)); (iterate 10 rfl)); intro _ _) | (apply GS.eff; rfl; decide +kernel; rfl; (apply X.storeTo 0 (enc (⟨0, s, qNil⟩ : FoundV)); (iterate 10 rfl)); intro _ _) | (apply TL.val; rfl; rfl; (first | exact vpure | exact vread)) | (apply GT.pure; (iterate 4 rfl); (first | exact vpure); decide +kernel) | (apply GT.read; (iterate 4 rfl); (first | exact vpure | exact vread); decide +kernel) | (apply GT.done; decide +kernel; apply N.ofQ) | (apply GT.adv; rfl) | (apply TL.x; rfl; rfl; (first | exact xgrow | exact xput); intro _ _) | (apply GS.grow; rfl; rfl; (first | exact xgrow); intro _ _) | (apply GS.eff; rfl; decide +kernel; rfl; (first | exact xput); intro _ _) | (apply TL.guard; rfl; rfl; rfl; (exact isx); intro _; rotate_left; intro _; rotate_right) | (apply GT.guard; (iterate 4 rfl); (exact isx); intro _; rotate_left; intro _; rotate_right) | (apply GT.fork1; decide +kernel) | (apply GT.fork2 1; decide +kernel) | (apply GT.fork2 2; decide +kernel) | (apply GT.fork2 3; decide +kernel) | (apply GT.fork2 4; decide +kernel) | (apply GT.fork2 5; decide +kernel) | (apply GT.fork2 6; decide +kernel) | (apply GT.fork2 7; decide +kernel) | (apply GT.fork2 8; decide +kernel) | (apply GT.fork2 9; decide +kernel) | (apply GT.fork2 10; decide +kernel) | (apply GT.fork2 11; decide +kernel) | (apply GT.fork2 12; decide +kernel) | (apply GT.fork2 13; decide +kernel) | (apply GT.fork2 14; decide +kernel)))
          rename_i b14 _ _ _
          exact N.bothG b14 (by (repeat (first | exact True.intro | refine ⟨rfl, ?_⟩ | refine Sub.int rfl (by omega) ?_))) (List.Sublist.refl _)
        · intro b14
          simp only [List.set_cons_succ, List.set_cons_zero]
          repeat (any_goals (first | refine T.seq ?_ | refine T.region ?_ | (apply T.regionD wide; rfl) | refine TL.nil ?_ | refine N.next ?_ | refine N.inBlock ?_ | refine N.exit_same ?_ | refine N.exit_then ?_ | refine N.ret_then ?_ | refine N.ret_block ?_ | (apply N.exit_other; rfl) | refine T.ret ?_ | refine T.skip ?_ | refine T.exit ?_ | refine T.block ?_ | (apply T.cond_true; rfl) | (apply T.cond_false; rfl) | (apply T.test; rfl; (exact isx); intro _; rotate_left; intro _; rotate_right) | (apply TL.skip; rfl; rfl; rfl) | (apply TL.skip_none; rfl; rfl) | (apply GT.skip; rfl; rfl; rfl; decide +kernel) | (apply TL.val; rfl; rfl; (apply V.eqlF (show (0 : Int) ≠ 2 by decide); rfl; rfl)) | (apply GT.pure; (iterate 4 rfl); (apply V.eqlF (show (0 : Int) ≠ 2 by decide); rfl; rfl); decide +kernel) | (apply GT.read; (iterate 4 rfl); (apply V.eqlF (show (0 : Int) ≠ 2 by decide); rfl; rfl); decide +kernel) | (apply TL.val; rfl; rfl; (apply V.eqlF (show (0 : Int) ≠ 1 by decide); rfl; rfl)) | (apply GT.pure; (iterate 4 rfl); (apply V.eqlF (show (0 : Int) ≠ 1 by decide); rfl; rfl); decide +kernel) | (apply GT.read; (iterate 4 rfl); (apply V.eqlF (show (0 : Int) ≠ 1 by decide); rfl; rfl); decide +kernel) | (apply TL.callE (f := 49) [.agg (enc j).toArray, .agg (enc s).toArray] Tryz.call49; (iterate 4 rfl); (exact fun _ hs => c_linkV j s i10 i11 i12 i13 i14 hs.sat hR2 hj2 hsg2)) | (apply GT.callE (f := 49) [.agg (enc j).toArray, .agg (enc s).toArray] Tryz.call49; (iterate 6 rfl); (exact fun _ hs => c_linkV j s i10 i11 i12 i13 i14 hs.sat hR2 hj2 hsg2); decide +kernel) | (apply TL.x; rfl; rfl; (apply X.alloc (d := 16); rfl; rfl; rfl); intro b16 _) | (apply TL.x; rfl; rfl; (apply X.storeTo 0 (enc qNil); (iterate 10 rfl)); intro _ _) | (apply GS.eff; rfl; decide +kernel; rfl; (apply X.storeTo 0 (enc qNil); (iterate 10 rfl)); intro _ _) | (apply TL.val; rfl; rfl; (apply V.neqE (show kindV true = 1 from rfl); rfl; rfl)) | (apply GT.pure; (iterate 4 rfl); (apply V.neqE (show kindV true = 1 from rfl); rfl; rfl); decide +kernel) | (apply GT.read; (iterate 4 rfl); (apply V.neqE (show kindV true = 1 from rfl); rfl; rfl); decide +kernel) | (apply GS.grow; rfl; rfl; (apply X.callFE (f := 42) [.agg (enc s).toArray] Tryz.call42; rfl; rfl; rfl; exact (fun _ hs => c_vcloned s _ _ hs.sat hsg2 i15 i16)); intro y hy) | (apply GS.grow; rfl; rfl; (apply X.buildSlice1 (d := 93); (iterate 8 rfl)); intro b93 _) | (apply GS.eff; rfl; decide +kernel; rfl; (apply X.append1 5; (iterate 9 rfl); exact List.Mem.head _; rfl; rfl; rfl; decide; decide); intro pa _) | (apply GS.eff; rfl; decide +kernel; rfl; (apply X.storeTo 6 [.slice (some ⟨pa.1, 0, none⟩) 1 pa.2]; (iterate 10 rfl)); intro _ _) | (apply TL.val; rfl; rfl; (first | exact vpure | exact vread)) | (apply GT.pure; (iterate 4 rfl); (first | exact vpure); decide +kernel) | (apply GT.read; (iterate 4 rfl); (first | exact vpure | exact vread); decide +kernel) | (apply GT.done; decide +kernel; apply N.ofQ) | (apply GT.adv; rfl) | (apply TL.x; rfl; rfl; (first | exact xgrow | exact xput); intro _ _) | (apply GS.grow; rfl; rfl; (first | exact xgrow); intro _ _) | (apply GS.eff; rfl; decide +kernel; rfl; (first | exact xput); intro _ _) | (apply TL.guard; rfl; rfl; rfl; (exact isx); intro _; rotate_left; intro _; rotate_right) | (apply GT.guard; (iterate 4 rfl); (exact isx); intro _; rotate_left; intro _; rotate_right) | (apply GT.fork1; decide +kernel) | (apply GT.fork2 1; decide +kernel) | (apply GT.fork2 2; decide +kernel) | (apply GT.fork2 3; decide +kernel) | (apply GT.fork2 4; decide +kernel) | (apply GT.fork2 5; decide +kernel) | (apply GT.fork2 6; decide +kernel) | (apply GT.fork2 7; decide +kernel) | (apply GT.fork2 8; decide +kernel) | (apply GT.fork2 9; decide +kernel) | (apply GT.fork2 10; decide +kernel) | (apply GT.fork2 11; decide +kernel) | (apply GT.fork2 12; decide +kernel) | (apply GT.fork2 13; decide +kernel) | (apply GT.fork2 14; decide +kernel)))
          refine N.round_out (i := 3) (e := .normal) trivial rfl fun w hs => ⟨true, (y.1, pa.1, pa.2, [] ++ enc y.2), rfl, trivial, ?_⟩
          exact hs.sub (by unfold jLT; (repeat (first | exact List.Sublist.refl _ | exact List.nil_sublist _ | apply List.Sublist.cons_cons | apply List.Sublist.cons)))
      · rintro e w2 ⟨v, bb, g, rfl, _, hs2⟩
        exact ⟨g, v, .ready, rfl, trivial, by simp, hs2⟩
    · rintro b ⟨H3, g1, g2, xs⟩ _
      show N _ _ _ _ .normal _ _ _
      repeat (any_goals (first | refine T.seq ?_ | refine T.region ?_ | (apply T.regionD wide; rfl) | refine TL.nil ?_ | refine N.next ?_ | refine N.inBlock ?_ | refine N.exit_same ?_ | refine N.exit_then ?_ | refine N.ret_then ?_ | refine N.ret_block ?_ | (apply N.exit_other; rfl) | refine T.ret ?_ | refine T.skip ?_ | refine T.exit ?_ | refine T.block ?_ | (apply T.cond_true; rfl) | (apply T.cond_false; rfl) | (apply T.test; rfl; (exact isx); intro _; rotate_left; intro _; rotate_right) | (apply TL.skip; rfl; rfl; rfl) | (apply TL.skip_none; rfl; rfl) | (apply GT.skip; rfl; rfl; rfl; decide +kernel) | (apply TL.val; rfl; rfl; (apply V.build; (iterate 6 rfl))) | (apply GT.pure; (iterate 4 rfl); (apply V.build; (iterate 6 rfl)); decide +kernel) | (apply GT.read; (iterate 4 rfl); (apply V.build; (iterate 6 rfl)); decide +kernel) | (apply TL.x; rfl; rfl; (apply X.storeTo 4 [intV 1, strV [], intV 0, .slice (some ⟨g1, 0, none⟩) 1 g2]; (iterate 10 rfl)); intro _ _) | (apply GS.eff; rfl; decide +kernel; rfl; (apply X.storeTo 4 [intV 1, strV [], intV 0, .slice (some ⟨g1, 0, none⟩) 1 g2]; (iterate 10 rfl)); intro _ _) | (apply TL.val; rfl; rfl; (first | exact vpure | exact vread)) | (apply GT.pure; (iterate 4 rfl); (first | exact vpure); decide +kernel) | (apply GT.read; (iterate 4 rfl); (first | exact vpure | exact vread); decide +kernel) | (apply GT.done; decide +kernel; apply N.ofQ) | (apply GT.adv; rfl) | (apply TL.x; rfl; rfl; (first | exact xgrow | exact xput); intro _ _) | (apply GS.grow; rfl; rfl; (first | exact xgrow); intro _ _) | (apply GS.eff; rfl; decide +kernel; rfl; (first | exact xput); intro _ _) | (apply TL.guard; rfl; rfl; rfl; (exact isx); intro _; rotate_left; intro _; rotate_right) | (apply GT.guard; (iterate 4 rfl); (exact isx); intro _; rotate_left; intro _; rotate_right) | (apply GT.fork1; decide +kernel) | (apply GT.fork2 1; decide +kernel) | (apply GT.fork2 2; decide +kernel) | (apply GT.fork2 3; decide +kernel) | (apply GT.fork2 4; decide +kernel) | (apply GT.fork2 5; decide +kernel) | (apply GT.fork2 6; decide +kernel) | (apply GT.fork2 7; decide +kernel) | (apply GT.fork2 8; decide +kernel) | (apply GT.fork2 9; decide +kernel) | (apply GT.fork2 10; decide +kernel) | (apply GT.fork2 11; decide +kernel) | (apply GT.fork2 12; decide +kernel) | (apply GT.fork2 13; decide +kernel) | (apply GT.fork2 14; decide +kernel)))
      refine N.marked (i := 0) rfl (N.ret2 rfl (by (exact rvx)) (by (exact rvx)) fun w hst => ?_)
      exact ⟨(H3, some ⟨g1, 0, none⟩, g2), trivial, rfl, hst.fresh⟩
  | false =>
    refine T.rangeFunc (G := Hp) (fun _ => .ret) (fun g => g) (fun g => [.blk b11 34 [intV 0], .blk b10 74 [intV 2, strV [], intV 0, .slice none 0 0]]) (fun _ => True) rfl Tryz.call89 (fun _ _ => trivial) ?_ ?_
    · intro fn a b hf w1 hs1
      have hs1' := hs1.sub (L' := jLF (recd fn a.tmps _ _ _ b) b b10 b11 b12 b13 j none) (by unfold jLF; (repeat (first | exact List.Sublist.refl _ | exact List.nil_sublist _ | apply List.Sublist.cons_cons | apply List.Sublist.cons)))
      refine (c_links1 j q i9 hj2 z2 z3 (G := Hp) (φ := fun _ _ => True) (HH := fun g => g) (LL := jLF (recd fn a.tmps _ _ _ b) b b10 b11 b12 b13 j) ?_ hs1').mono ?_
      · intro w2 hs2
        simp only [jLF] at hs2
        refine yieldAt_ofG (j := 1) (G := Nat) (fun b14 => [(10, .pointer (some ⟨b10, 0, none⟩)), (11, .pointer (some ⟨b11, 0, none⟩)), (12, .pointer (some ⟨b12, 0, none⟩)), (13, .pointer (some ⟨b13, 0, none⟩)), (14, .pointer (some ⟨b14, 0, none⟩))]) (fun b14 => [.blk b14 125 (enc (⟨0, s, qNil⟩ : FoundV)), .any (b + 1) (.loop (recd fn a.tmps _ _ _ b .ready none)), .any b (.deferred (some [])), .blk b13 25 [.slice none 0 0], .blk b12 120 (enc j), .blk b11 34 [intV 0], .blk b10 74 [intV 0, strV [], intV 0, .slice none 0 0]]) (i := 0) hs2 rfl (fun _ => rfl) rfl _ (Fr.round1 hf rfl) ?_ ?_
        · repeat (any_goals (first | refine T.seq ?_ | refine T.region ?_ | (apply T.regionD wide; rfl) | refine TL.nil ?_ | refine N.next ?_ | refine N.inBlock ?_ | refine N.exit_same ?_ | refine N.exit_then ?_ | refine N.ret_then ?_ | refine N.ret_block ?_ | (apply N.exit_other; rfl) | refine T.ret ?_ | refine T.skip ?_ | refine T.exit ?_ | refine T.block ?_ | (apply T.cond_true; rfl) | (apply T.cond_false; rfl) | (apply T.test; rfl; (exact isx); intro _; rotate_left; intro _; rotate_right) | (apply TL.skip; rfl; rfl; rfl) | (apply TL.skip_none; rfl; rfl) | (apply GT.skip; rfl; rfl; rfl; decide +kernel) | (apply TL.x; rfl; rfl; (apply X.storeTo 0 (enc (⟨0, s, qNil⟩ : FoundV)); (iterate 10 rfl)); intro _ _) | (apply GS.eff; rfl; decide +kernel; rfl; (apply X.storeTo 0 (enc (⟨0, s, qNil⟩ : FoundV)); (iterate 10 rfl)); intro _ _) | (apply TL.val; rfl; rfl; (first | exact vpure | exact vread)) | (apply GT.pure; (iterate 4 rfl); (first | exact vpure); decide +kernel) | (apply GT.read; (iterate 4 rfl); (first | exact vpure | exact vread); decide +kernel) | (apply GT.done; decide +kernel; apply N.ofQ) | (apply GT.adv; rfl) | (apply TL.x; rfl; rfl; (first | exact xgrow | exact xput); intro _ _) | (apply GS.grow; rfl; rfl; (first | exact xgrow); intro _ _) | (apply GS.eff; rfl; decide +kernel; rfl; (first | exact xput); intro _ _) | (apply TL.guard; rfl; rfl; rfl; (exact isx); intro _; rotate_left; intro _; rotate_right) | (apply GT.guard; (iterate 4 rfl); (exact isx); intro _; rotate_left; intro _; rotate_right) | (apply GT.fork1; decide +kernel) | (apply GT.fork2 1; decide +kernel) | (apply GT.fork2 2; decide +kernel) | (apply GT.fork2 3; decide +kernel) | (apply GT.fork2 4; decide +kernel) | (apply GT.fork2 5; decide +kernel) | (apply GT.fork2 6; decide +kernel) | (apply GT.fork2 7; decide +kernel) | (apply GT.fork2 8; decide +kernel) | (apply GT.fork2 9; decide +kernel) | (apply GT.fork2 10; decide +kernel) | (apply GT.fork2 11; decide +kernel) | (apply GT.fork2 12; decide +kernel) | (apply GT.fork2 13; decide +kernel) | (apply GT.fork2 14; decide +kernel)))
          rename_i b14 _ _ _
          exact N.bothG b14 (by (repeat (first | exact True.intro | refine ⟨rfl, ?_⟩ | refine Sub.int rfl (by omega) ?_))) (List.Sublist.refl _)
        · intro b14
          simp only [List.set_cons_succ, List.set_cons_zero]
          repeat (any_goals (first | refine T.seq ?_ | refine T.region ?_ | (apply T.regionD wide; rfl) | refine TL.nil ?_ | refine N.next ?_ | refine N.inBlock ?_ | refine N.exit_same ?_ | refine N.exit_then ?_ | refine N.ret_then ?_ | refine N.ret_block ?_ | (apply N.exit_other; rfl) | refine T.ret ?_ | refine T.skip ?_ | refine T.exit ?_ | refine T.block ?_ | (apply T.cond_true; rfl) | (apply T.cond_false; rfl) | (apply T.test; rfl; (exact isx); intro _; rotate_left; intro _; rotate_right) | (apply TL.skip; rfl; rfl; rfl) | (apply TL.skip_none; rfl; rfl) | (apply GT.skip; rfl; rfl; rfl; decide +kernel) | (apply TL.val; rfl; rfl; (apply V.eqlF (show (0 : Int) ≠ 2 by decide); rfl; rfl)) | (apply GT.pure; (iterate 4 rfl); (apply V.eqlF (show (0 : Int) ≠ 2 by decide); rfl; rfl); decide +kernel) | (apply GT.read; (iterate 4 rfl); (apply V.eqlF (show (0 : Int) ≠ 2 by decide); rfl; rfl); decide +kernel) | (apply TL.val; rfl; rfl; (apply V.eqlF (show (0 : Int) ≠ 1 by decide); rfl; rfl)) | (apply GT.pure; (iterate 4 rfl); (apply V.eqlF (show (0 : Int) ≠ 1 by decide); rfl; rfl); decide +kernel) | (apply GT.read; (iterate 4 rfl); (apply V.eqlF (show (0 : Int) ≠ 1 by decide); rfl; rfl); decide +kernel) | (apply TL.callE (f := 49) [.agg (enc j).toArray, .agg (enc s).toArray] Tryz.call49; (iterate 4 rfl); (exact fun _ hs => c_linkV j s i10 i11 i12 i13 i14 hs.sat hR2 hj2 hsg2)) | (apply GT.callE (f := 49) [.agg (enc j).toArray, .agg (enc s).toArray] Tryz.call49; (iterate 6 rfl); (exact fun _ hs => c_linkV j s i10 i11 i12 i13 i14 hs.sat hR2 hj2 hsg2); decide +kernel) | (apply TL.x; rfl; rfl; (apply X.alloc (d := 16); rfl; rfl; rfl); intro b16 _) | (apply TL.x; rfl; rfl; (apply X.storeTo 0 (enc qNil); (iterate 10 rfl)); intro _ _) | (apply GS.eff; rfl; decide +kernel; rfl; (apply X.storeTo 0 (enc qNil); (iterate 10 rfl)); intro _ _) | (apply TL.val; rfl; rfl; (apply V.neqT (show kindV false ≠ 1 by decide); rfl; rfl)) | (apply GT.pure; (iterate 4 rfl); (apply V.neqT (show kindV false ≠ 1 by decide); rfl; rfl); decide +kernel) | (apply GT.read; (iterate 4 rfl); (apply V.neqT (show kindV false ≠ 1 by decide); rfl; rfl); decide +kernel) | (apply TL.val; rfl; rfl; (apply V.build; (iterate 6 rfl))) | (apply GT.pure; (iterate 4 rfl); (apply V.build; (iterate 6 rfl)); decide +kernel) | (apply GT.read; (iterate 4 rfl); (apply V.build; (iterate 6 rfl)); decide +kernel) | (apply TL.x; rfl; rfl; (apply X.storeTo 7 [intV 2, strV [], intV 0, .slice none 0 0]; (iterate 10 rfl)); intro _ _) | (apply GS.eff; rfl; decide +kernel; rfl; (apply X.storeTo 7 [intV 2, strV [], intV 0, .slice none 0 0]; (iterate 10 rfl)); intro _ _) | (apply TL.x; rfl; rfl; (apply X.storeTo 6 [intV 0]; (iterate 10 rfl)); intro _ _) | (apply GS.eff; rfl; decide +kernel; rfl; (apply X.storeTo 6 [intV 0]; (iterate 10 rfl)); intro _ _) | (apply TL.val; rfl; rfl; (first | exact vpure | exact vread)) | (apply GT.pure; (iterate 4 rfl); (first | exact vpure); decide +kernel) | (apply GT.read; (iterate 4 rfl); (first | exact vpure | exact vread); decide +kernel) | (apply GT.done; decide +kernel; apply N.ofQ) | (apply GT.adv; rfl) | (apply TL.x; rfl; rfl; (first | exact xgrow | exact xput); intro _ _) | (apply GS.grow; rfl; rfl; (first | exact xgrow); intro _ _) | (apply GS.eff; rfl; decide +kernel; rfl; (first | exact xput); intro _ _) | (apply TL.guard; rfl; rfl; rfl; (exact isx); intro _; rotate_left; intro _; rotate_right) | (apply GT.guard; (iterate 4 rfl); (exact isx); intro _; rotate_left; intro _; rotate_right) | (apply GT.fork1; decide +kernel) | (apply GT.fork2 1; decide +kernel) | (apply GT.fork2 2; decide +kernel) | (apply GT.fork2 3; decide +kernel) | (apply GT.fork2 4; decide +kernel) | (apply GT.fork2 5; decide +kernel) | (apply GT.fork2 6; decide +kernel) | (apply GT.fork2 7; decide +kernel) | (apply GT.fork2 8; decide +kernel) | (apply GT.fork2 9; decide +kernel) | (apply GT.fork2 10; decide +kernel) | (apply GT.fork2 11; decide +kernel) | (apply GT.fork2 12; decide +kernel) | (apply GT.fork2 13; decide +kernel) | (apply GT.fork2 14; decide +kernel)))
          refine N.round_out (i := 2) (e := .ret) trivial rfl fun w hs => ⟨false, H2, rfl, trivial, ?_⟩
          exact hs.sub (by unfold jLF; (repeat (first | exact List.Sublist.refl _ | exact List.nil_sublist _ | apply List.Sublist.cons_cons | apply List.Sublist.cons)))
      · rintro e w2 ⟨v, bb, g, rfl, _, hs2⟩
        exact ⟨g, v, .done, rfl, trivial, by simp, hs2⟩
    · rintro b H3 _
      show N _ _ _ _ .ret _ _ _
      repeat (any_goals (first | refine T.seq ?_ | refine T.region ?_ | (apply T.regionD wide; rfl) | refine TL.nil ?_ | refine N.next ?_ | refine N.inBlock ?_ | refine N.exit_same ?_ | refine N.exit_then ?_ | refine N.ret_then ?_ | refine N.ret_block ?_ | (apply N.exit_other; rfl) | refine T.ret ?_ | refine T.skip ?_ | refine T.exit ?_ | refine T.block ?_ | (apply T.cond_true; rfl) | (apply T.cond_false; rfl) | (apply T.test; rfl; (exact isx); intro _; rotate_left; intro _; rotate_right) | (apply TL.skip; rfl; rfl; rfl) | (apply TL.skip_none; rfl; rfl) | (apply GT.skip; rfl; rfl; rfl; decide +kernel) | (apply TL.val; rfl; rfl; (first | exact vpure | exact vread)) | (apply GT.pure; (iterate 4 rfl); (first | exact vpure); decide +kernel) | (apply GT.read; (iterate 4 rfl); (first | exact vpure | exact vread); decide +kernel) | (apply GT.done; decide +kernel; apply N.ofQ) | (apply GT.adv; rfl) | (apply TL.x; rfl; rfl; (first | exact xgrow | exact xput); intro _ _) | (apply GS.grow; rfl; rfl; (first | exact xgrow); intro _ _) | (apply GS.eff; rfl; decide +kernel; rfl; (first | exact xput); intro _ _) | (apply TL.guard; rfl; rfl; rfl; (exact isx); intro _; rotate_left; intro _; rotate_right) | (apply GT.guard; (iterate 4 rfl); (exact isx); intro _; rotate_left; intro _; rotate_right) | (apply GT.fork1; decide +kernel) | (apply GT.fork2 1; decide +kernel) | (apply GT.fork2 2; decide +kernel) | (apply GT.fork2 3; decide +kernel) | (apply GT.fork2 4; decide +kernel) | (apply GT.fork2 5; decide +kernel) | (apply GT.fork2 6; decide +kernel) | (apply GT.fork2 7; decide +kernel) | (apply GT.fork2 8; decide +kernel) | (apply GT.fork2 9; decide +kernel) | (apply GT.fork2 10; decide +kernel) | (apply GT.fork2 11; decide +kernel) | (apply GT.fork2 12; decide +kernel) | (apply GT.fork2 13; decide +kernel) | (apply GT.fork2 14; decide +kernel)))
      refine N.marked (i := 0) rfl (N.ret2 rfl (by (exact rvx)) (by (exact rvx)) fun w hst => ?_)
      exact ⟨(H3, none, 0), trivial, rfl, hst.fresh⟩
end Go.Proofs.YtpnoabbdcakjkaaGreatDoor
