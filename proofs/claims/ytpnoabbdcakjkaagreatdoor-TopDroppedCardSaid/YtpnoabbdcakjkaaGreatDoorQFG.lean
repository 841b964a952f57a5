/- Walks: Begin, Take and Wait of a forwarding resolver. -/
import Derived.Test.YtpnoabbdcakjkaaGreatDoorQFF
namespace Go.Proofs.YtpnoabbdcakjkaaGreatDoor
set_option linter.unusedVariables false
set_option linter.unusedSimpArgs false
open Go Go.RowKit
open Enc (enc)
set_option maxRecDepth 20000

section
variable {P : Program} {n : FK} {w0 : World} {H0 H : Hp} {env : List (Nat × Value)} {L : List Loc}
theorem X.callOE {G : Type} {φ : G → Prop} {v : G → Value} {H' : G → Hp} {LL : G → List Loc} {d : Nat} {f : FuncId} {args : Array Operand} {tys : Array TypeId} {ty : TypeId} {pos : String} {after : Array Edge} {g : Option (Nat × Bool)} {vs : List Value} (us : List Value)
    (hcall : ∀ (args : Array Value) (w : World), (callFunc f args).run P w = .ok (.enter f args) w) (hn : Nat.blt d n.n = true) (hargs : evs env args.toList = some vs) (he : vs = us)
    (hc : ∀ w, St w0 H0 H L w → Calls P f us.toArray w (RetO w H φ v H' LL)) :
    X P n w0 H0 env H L ⟨some d, .call { callee := .value (.func f), args := args, argTypes := tys }, ty, pos, after, g⟩ true (fun g => φ g ∧ H.le (H' g)) (fun g => (d, v g) :: env) H' (fun g => LL g ++ L) := by
  subst he
  exact X.callO0 hcall hn hargs hc
theorem X.callSE {G : Type} {φ : G → Prop} {v : G → Value} {HH : G → Hp} {LL : G → List Loc} {d : Nat} {f : FuncId} {args : Array Operand} {tys : Array TypeId} {ty : TypeId} {pos : String} {after : Array Edge} {g : Option (Nat × Bool)} {vs : List Value} (us : List Value)
    (hcall : ∀ (args : Array Value) (w : World), (callFunc f args).run P w = .ok (.enter f args) w) (hn : Nat.blt d n.n = true) (hargs : evs env args.toList = some vs) (he : vs = us)
    (hc : ∀ w, St w0 H0 H L w → CallsIn (FW none) 0 P f us.toArray w (fun e w' => ∃ g, φ g ∧ e = .returned (v g) ∧ St w0 H0 (HH g) (LL g) w')) :
    X P n w0 H0 env H L ⟨some d, .call { callee := .value (.func f), args := args, argTypes := tys }, ty, pos, after, g⟩ false φ (fun g => (d, v g) :: env) HH LL := by
  subst he
  exact X.callS0 hcall hn hargs hc
end
theorem answer_few {a : Answer} (hlen : a.sets.els.length = a.sets.len) (h : answerOK a.c = true) : AnsFew a := by
  unfold answerOK at h
  simp only [Bool.and_eq_true, decide_eq_true_eq, List.all_eq_true] at h
  have hl : a.c.sets.length = a.sets.els.length := List.length_map _
  refine ⟨by have := h.1.1.2; omega, fun s hs => ?_⟩
  have h1 := h.1.2 s.c (List.mem_map_of_mem hs)
  unfold signedOK at h1
  simp only [Bool.and_eq_true, decide_eq_true_eq] at h1
  have h2 := h1.1.2
  unfold setOK at h2
  simp only [Bool.and_eq_true, decide_eq_true_eq] at h2
  exact ⟨h2.1.1.1.1.2.2, h1.1.1⟩
theorem nil_few {a : Answer} (hlen : a.sets.els.length = a.sets.len) (h : a.sets.len = 0) : AnsFew a := by
  refine ⟨by omega, fun s hs => ?_⟩
  rw [List.eq_nil_of_length_eq_zero (by omega : a.sets.els.length = 0)] at hs
  cases hs
theorem fwd_few {f : Fwd} {H : Hp} (hg : Enc.good H f) (hv : fwdOK f.c = true) : AnsFew f.ans ∧ f.ups.len ≤ 8 ∧ (0 ≤ f.at_ ∧ f.at_ < f.ups.len) := by
  have hlen : f.ups.els.length = f.ups.len := hg.2.2.1.len
  have hsl : f.ans.sets.els.length = f.ans.sets.len := hg.2.2.2.2.2.2.2.2.1.len
  obtain ⟨_, _, _, a4, a5, _, _, _, _, _, a11, a12⟩ := (fwdc_iff f hlen hsl).1 hv
  have hu := ((upsOK_iff _ _).1 a4).1
  refine ⟨?_, by omega, a5⟩
  cases hd : f.done
  · exact nil_few hsl (a12 hd).2.1
  · exact answer_few hsl (a11 hd).1
theorem msg_few {m : Msg} {H : Hp} (hg : Enc.good H m) (hv : msgOK m.c = true) : AnsFew m.ans := by
  have hsl : m.ans.sets.els.length = m.ans.sets.len := hg.2.2.2.2.2.2.1.len
  rcases ((msgOK_ands m.c).1 hv).2.2.2.2 with ⟨_, _, h, _⟩ | ⟨_, h⟩
  · have h' : m.ans.sets.els.map Signed.c = [] := h
    exact nil_few hsl (by rw [← hsl, List.map_eq_nil_iff.1 h']; rfl)
  · exact answer_few hsl h
structure Row0 {α : Type} [Enc α] (s : Slc α) (H : Hp) (x : α) : Prop where
  A : s.A = some ⟨s.b, s.o, none⟩
  row : H.cells s.b (s.o + 0 * Enc.size α) (enc x)
  good : Enc.good H x
  pos : 0 < s.len
theorem row0 {α : Type} [Enc α] {s : Slc α} {H : Hp} {x : α} (h : s.Good H) (hx : s.els = [x]) : Row0 s H x := by
  have hl : s.len = 1 := by rw [← h.len, hx]; rfl
  have h0 : 0 < s.len := by omega
  have e : (s.els[0]'(by rw [h.len]; exact h0)) = x := by simp [hx]
  refine ⟨h.at_ h0, ?_, ?_, h0⟩
  · have := h.row h0; rw [e] at this; exact this
  · have := h.el h0; rw [e] at this; exact this
theorem c_isNowV {now : Int} {b : Bool} (h : isNow now = b) {H : Hp} {w : World} (hs : Sat H w) : Calls Tryz.prog 21 #[intV now, intV 0, intV 10000000] w (Ret w (.bool b)) := by
  subst h
  exact c_betweenF now 0 10000000 H w hs
theorem c_fvalidV (f : Fwd) {b : Bool} (h : fwdOK f.c = b) {H : Hp} {w : World} (hs : Sat H w) (hR : Rules H) (hg : Enc.good H f) : Calls Tryz.prog 22 #[.agg (enc f).toArray] w (Ret w (.bool b)) := by
  subst h
  exact c_fvalid f H w hs hR hg
theorem c_pvalidV (m : Msg) {b : Bool} (h : msgOK m.c = b) {H : Hp} {w : World} (hs : Sat H w) (hR : Rules H) (hg : Enc.good H m) : Calls Tryz.prog 27 #[.agg (enc m).toArray] w (Ret w (.bool b)) := by
  subst h
  exact c_packetValid m H w hs hR hg
theorem c_pmatchV (q m : Msg) {b : Bool} (h : matchOK q.c m.c = b) {H : Hp} {w : World} (hs : Sat H w) (hR : Rules H) (hq : Enc.good H q) (hm : Enc.good H m) : Calls Tryz.prog 34 #[.agg (enc q).toArray, .agg (enc m).toArray] w (Ret w (.bool b)) := by
  subst h
  exact c_packetMatch q m H w hs hR hq hm
theorem c_waitsV (f : Fwd) {b : Bool} {now : Int} (h : waitsC f.c now = b) {sv : Value} {k : Nat} {H : Hp} {w : World} (hs : Sat H w) (hb : H.cells k 0 (stCells f now sv)) : Calls Tryz.prog 33 #[ptr k] w (Ret w (.bool b)) := by
  subst h
  exact c_waits f now sv k H w hs hb
def zeroFwd : Fwd := ⟨⟨[], 0⟩, 0, Slc.nil _, 0, 0, 0, 0, false, false, ⟨0, Slc.nil _, []⟩⟩
theorem i0 : I64 0 := by decide
theorem nilAns_good (H : Hp) : Enc.good H (⟨0, Slc.nil _, []⟩ : Answer) := ⟨i0, Slc.nil_good, by show LenOk []; decide⟩
theorem zeroFwd_good (H : Hp) : Enc.good H zeroFwd := ⟨⟨by show LenOk []; decide, i0⟩, i0, Slc.nil_good, i0, i0, i0, i0, nilAns_good H⟩
theorem zeroMsg_good (H : Hp) : Enc.good H zeroMsg := ⟨i0, i0, i0, i0, ⟨by show LenOk []; decide, i0⟩, nilAns_good H⟩
def startF (q : Question) (own : Int) (l : Slc Int) (id now : Int) : Fwd := ⟨q, own, l, 0, 0, now + 5, id, false, false, ⟨0, Slc.nil _, []⟩⟩
theorem startF_c (q : Question) (own : Int) (l : Slc Int) (id now : Int) : (startF q own l id now).c = startC q own l.els id now := rfl
theorem begin_no {q : Question} {own : Int} {l : List Int} {id now : Int} (h : isNow now = false ∨ fwdOK (startC q own l id now) = false) : beginC q own l id now = (fwdNil, msgNil, 1) := by
  unfold beginC
  rw [if_pos]
  rcases h with h | h <;> simp [h]
theorem begin_yes {q : Question} {own : Int} {l : List Int} {id now : Int} (h1 : isNow now = true) (h2 : fwdOK (startC q own l id now) = true) : beginC q own l id now = (startC q own l id now, queryOf (startC q own l id now), 0) := by
  unfold beginC
  rw [h1, h2]; rfl
def Begun (w : World) (H : Hp) (r : FwdC × MsgC × Int) : Ending → World → Prop := RetF w H (fun g : Hp × Fwd × Msg => (g.2.1.c = r.1 ∧ g.2.2.c = r.2.1) ∧ Enc.good g.1 g.2.1 ∧ Enc.good g.1 g.2.2) (fun g => .tuple #[.agg (enc g.2.1).toArray, .agg (enc g.2.2).toArray, intV r.2.2]) (fun g => g.1)
set_option maxHeartbeats 2000000 in
theorem c_Begin (q : Question) (own : Int) (l : Slc Int) (id now : Int) (H : Hp) (w : World) (hs : Sat H w) (hR : Rules H) (hq : Enc.good H q) (hown : I64 own) (hl : l.Good H) (hid : I64 id) (hnow : I64 now) : Calls Tryz.prog 6 #[.agg (enc q).toArray, intV own, l.v, intV id, intV now] w (Begun w H (beginC q own l.els id now)) := by
  refine T.enter (vs := [.agg (enc q).toArray, intV own, l.v, intV id, intV now]) (H := H) Tryz.func6 rfl rfl rfl hs ?_
  cases hn : isNow now
  · rw [begin_no (.inl hn)]
    repeat (any_goals (first | refine T.seq ?_ | refine T.region ?_ | (apply T.regionD wide; rfl) | refine TL.nil ?_ | refine N.next ?_ | refine N.inBlock ?_ | refine N.exit_same ?_ | refine N.exit_then ?_ | refine N.ret_then ?_ | refine N.ret_block ?_ | (apply N.exit_other; rfl) | refine T.ret ?_ | refine T.skip ?_ | refine T.exit ?_ | refine T.block ?_ | (apply T.cond_true; rfl) | (apply T.cond_false; rfl) | (apply T.test; rfl; (exact isx); intro _; rotate_left; intro _; rotate_right) | (apply TL.skip; rfl; rfl; rfl) | (apply TL.skip_none; rfl; rfl) | (apply GT.skip; rfl; rfl; rfl; decide +kernel) | (apply TL.callE (f := 21) [intV now, intV 0, intV 10000000] Tryz.call21; (iterate 4 rfl); (exact fun _ hs => c_isNowV hn hs.sat)) | (apply GT.callE (f := 21) [intV now, intV 0, intV 10000000] Tryz.call21; (iterate 6 rfl); (exact fun _ hs => c_isNowV hn hs.sat); decide +kernel) | (apply TL.val; rfl; rfl; (apply V.build; (iterate 6 rfl))) | (apply GT.pure; (iterate 4 rfl); (apply V.build; (iterate 6 rfl)); decide +kernel) | (apply GT.read; (iterate 4 rfl); (apply V.build; (iterate 6 rfl)); decide +kernel) | (apply TL.val; rfl; rfl; (first | exact vpure | exact vread)) | (apply GT.pure; (iterate 4 rfl); (first | exact vpure); decide +kernel) | (apply GT.read; (iterate 4 rfl); (first | exact vpure | exact vread); decide +kernel) | (apply GT.done; decide +kernel; apply N.ofQ) | (apply GT.adv; rfl) | (apply TL.x; rfl; rfl; (first | exact xgrow | exact xput); intro _ _) | (apply GS.grow; rfl; rfl; (first | exact xgrow); intro _ _) | (apply GS.eff; rfl; decide +kernel; rfl; (first | exact xput); intro _ _) | (apply TL.guard; rfl; rfl; rfl; (exact isx); intro _; rotate_left; intro _; rotate_right) | (apply GT.guard; (iterate 4 rfl); (exact isx); intro _; rotate_left; intro _; rotate_right) | (apply GT.fork1; decide +kernel) | (apply GT.fork2 1; decide +kernel) | (apply GT.fork2 2; decide +kernel) | (apply GT.fork2 3; decide +kernel) | (apply GT.fork2 4; decide +kernel) | (apply GT.fork2 5; decide +kernel) | (apply GT.fork2 6; decide +kernel) | (apply GT.fork2 7; decide +kernel) | (apply GT.fork2 8; decide +kernel) | (apply GT.fork2 9; decide +kernel) | (apply GT.fork2 10; decide +kernel) | (apply GT.fork2 11; decide +kernel) | (apply GT.fork2 12; decide +kernel) | (apply GT.fork2 13; decide +kernel) | (apply GT.fork2 14; decide +kernel)))
    apply N.ret3; rfl; (exact rvx); (exact rvx); (exact rvx)
    intro w1 hst
    exact ⟨(H, zeroFwd, zeroMsg), ⟨⟨rfl, rfl⟩, zeroFwd_good H, zeroMsg_good H⟩, rfl, hst.fresh⟩
  · have hn' := now_iff.1 hn
    have hF : Enc.good H (startF q own l id now) := ⟨hq, hown, hl, i0, i0, (show I64 (now + 5) from ⟨by omega, by omega⟩), hid, nilAns_good H⟩
    cases hv : fwdOK (startF q own l id now).c
    · rw [begin_no (q := q) (own := own) (l := l.els) (id := id) (.inr hv)]
      repeat (any_goals (first | refine T.seq ?_ | refine T.region ?_ | (apply T.regionD wide; rfl) | refine TL.nil ?_ | refine N.next ?_ | refine N.inBlock ?_ | refine N.exit_same ?_ | refine N.exit_then ?_ | refine N.ret_then ?_ | refine N.ret_block ?_ | (apply N.exit_other; rfl) | refine T.ret ?_ | refine T.skip ?_ | refine T.exit ?_ | refine T.block ?_ | (apply T.cond_true; rfl) | (apply T.cond_false; rfl) | (apply T.test; rfl; (exact isx); intro _; rotate_left; intro _; rotate_right) | (apply TL.skip; rfl; rfl; rfl) | (apply TL.skip_none; rfl; rfl) | (apply GT.skip; rfl; rfl; rfl; decide +kernel) | (apply TL.callE (f := 21) [intV now, intV 0, intV 10000000] Tryz.call21; (iterate 4 rfl); (exact fun _ hs => c_isNowV hn hs.sat)) | (apply GT.callE (f := 21) [intV now, intV 0, intV 10000000] Tryz.call21; (iterate 6 rfl); (exact fun _ hs => c_isNowV hn hs.sat); decide +kernel) | (apply TL.val; rfl; rfl; (apply V.build; (iterate 6 rfl))) | (apply GT.pure; (iterate 4 rfl); (apply V.build; (iterate 6 rfl)); decide +kernel) | (apply GT.read; (iterate 4 rfl); (apply V.build; (iterate 6 rfl)); decide +kernel) | (apply TL.callE (f := 22) [.agg (enc (startF q own l id now)).toArray] Tryz.call22; (iterate 4 rfl); (exact fun _ hs => c_fvalidV (startF q own l id now) hv hs.sat hR hF)) | (apply GT.callE (f := 22) [.agg (enc (startF q own l id now)).toArray] Tryz.call22; (iterate 6 rfl); (exact fun _ hs => c_fvalidV (startF q own l id now) hv hs.sat hR hF); decide +kernel) | (apply TL.val; rfl; rfl; (first | exact vpure | exact vread)) | (apply GT.pure; (iterate 4 rfl); (first | exact vpure); decide +kernel) | (apply GT.read; (iterate 4 rfl); (first | exact vpure | exact vread); decide +kernel) | (apply GT.done; decide +kernel; apply N.ofQ) | (apply GT.adv; rfl) | (apply TL.x; rfl; rfl; (first | exact xgrow | exact xput); intro _ _) | (apply GS.grow; rfl; rfl; (first | exact xgrow); intro _ _) | (apply GS.eff; rfl; decide +kernel; rfl; (first | exact xput); intro _ _) | (apply TL.guard; rfl; rfl; rfl; (exact isx); intro _; rotate_left; intro _; rotate_right) | (apply GT.guard; (iterate 4 rfl); (exact isx); intro _; rotate_left; intro _; rotate_right) | (apply GT.fork1; decide +kernel) | (apply GT.fork2 1; decide +kernel) | (apply GT.fork2 2; decide +kernel) | (apply GT.fork2 3; decide +kernel) | (apply GT.fork2 4; decide +kernel) | (apply GT.fork2 5; decide +kernel) | (apply GT.fork2 6; decide +kernel) | (apply GT.fork2 7; decide +kernel) | (apply GT.fork2 8; decide +kernel) | (apply GT.fork2 9; decide +kernel) | (apply GT.fork2 10; decide +kernel) | (apply GT.fork2 11; decide +kernel) | (apply GT.fork2 12; decide +kernel) | (apply GT.fork2 13; decide +kernel) | (apply GT.fork2 14; decide +kernel)))
      apply N.ret3; rfl; (exact rvx); (exact rvx); (exact rvx)
      intro w1 hst
      exact ⟨(H, zeroFwd, zeroMsg), ⟨⟨rfl, rfl⟩, zeroFwd_good H, zeroMsg_good H⟩, rfl, hst.fresh⟩
    · rw [begin_yes (q := q) (own := own) (l := l.els) (id := id) hn hv]
      have hfew := fwd_few hF hv
      repeat (any_goals (first | (apply T.regionDS [stB p1.2.2 { p1.2.1 with til := now + 5 } now p2.2.v] wide; rfl; (repeat (first | exact List.Sublist.refl _ | exact List.nil_sublist _ | apply List.Sublist.cons_cons | apply List.Sublist.cons))) | refine T.seq ?_ | refine T.region ?_ | (apply T.regionD wide; rfl) | refine TL.nil ?_ | refine N.next ?_ | refine N.inBlock ?_ | refine N.exit_same ?_ | refine N.exit_then ?_ | refine N.ret_then ?_ | refine N.ret_block ?_ | (apply N.exit_other; rfl) | refine T.ret ?_ | refine T.skip ?_ | refine T.exit ?_ | refine T.block ?_ | (apply T.cond_true; rfl) | (apply T.cond_false; rfl) | (apply T.test; rfl; (exact isx); intro _; rotate_left; intro _; rotate_right) | (apply TL.skip; rfl; rfl; rfl) | (apply TL.skip_none; rfl; rfl) | (apply GT.skip; rfl; rfl; rfl; decide +kernel) | (apply TL.callE (f := 21) [intV now, intV 0, intV 10000000] Tryz.call21; (iterate 4 rfl); (exact fun _ hs => c_isNowV hn hs.sat)) | (apply GT.callE (f := 21) [intV now, intV 0, intV 10000000] Tryz.call21; (iterate 6 rfl); (exact fun _ hs => c_isNowV hn hs.sat); decide +kernel) | (apply TL.val; rfl; rfl; (apply V.build; (iterate 6 rfl))) | (apply GT.pure; (iterate 4 rfl); (apply V.build; (iterate 6 rfl)); decide +kernel) | (apply GT.read; (iterate 4 rfl); (apply V.build; (iterate 6 rfl)); decide +kernel) | (apply TL.callE (f := 22) [.agg (enc (startF q own l id now)).toArray] Tryz.call22; (iterate 4 rfl); (exact fun _ hs => c_fvalidV (startF q own l id now) hv hs.sat hR hF)) | (apply GT.callE (f := 22) [.agg (enc (startF q own l id now)).toArray] Tryz.call22; (iterate 6 rfl); (exact fun _ hs => c_fvalidV (startF q own l id now) hv hs.sat hR hF); decide +kernel) | (apply TL.x; rfl; rfl; (apply X.callOE (f := 23) [.agg (enc (startF q own l id now)).toArray, intV now] Tryz.call23; rfl; rfl; rfl; exact (fun _ hs => c_newState (startF q own l id now) now _ _ hs.sat hF hfew.1 (by omega))); intro p1 hp1; have hv1 : fwdOK p1.2.1.c = true := (congrArg fwdOK hp1.1.1).trans hv; have hf1 := fwd_few hp1.1.2 hv1) | (apply TL.x; rfl; rfl; (apply X.callSE (f := 24) [.func (.func 25) #[ptr p1.2.2] #[]] Tryz.call24; rfl; rfl; rfl; exact (fun _ hs => c_runAsk hs hp1.1.2 hf1.2.2 hn')); intro p2 hp2; have h0 := row0 hp2.2.1 hp2.1) | (apply TL.val; rfl; rfl; (apply V.nilCheck; rfl)) | (apply GT.pure; (iterate 4 rfl); (apply V.nilCheck; rfl); decide +kernel) | (apply GT.read; (iterate 4 rfl); (apply V.nilCheck; rfl); decide +kernel) | (apply TL.val; rfl; rfl; (apply V.elem (j := 0); (iterate 6 rfl); exact h0.pos; exact h0.A)) | (apply GT.pure; (iterate 4 rfl); (apply V.elem (j := 0); (iterate 6 rfl); exact h0.pos; exact h0.A); decide +kernel) | (apply GT.read; (iterate 4 rfl); (apply V.elem (j := 0); (iterate 6 rfl); exact h0.pos; exact h0.A); decide +kernel) | (apply TL.val; rfl; rfl; (apply V.load_H_row; rfl; rfl; rfl; exact h0.row; rfl)) | (apply GT.pure; (iterate 4 rfl); (apply V.load_H_row; rfl; rfl; rfl; exact h0.row; rfl); decide +kernel) | (apply GT.read; (iterate 4 rfl); (apply V.load_H_row; rfl; rfl; rfl; exact h0.row; rfl); decide +kernel) | (apply GS.effS; rfl; rfl; (apply X.storeTo 3 (enc { p1.2.1 with til := now + 5 }); (iterate 10 rfl)); (intro _; rfl); (intro _; (repeat (first | exact List.Sublist.refl _ | exact List.nil_sublist _ | apply List.Sublist.cons_cons | apply List.Sublist.cons))); intro _ _) | (apply GS.effS; rfl; rfl; (apply X.storeTo 2 (enc (queryMsg { p1.2.1 with til := now + 5 })); (iterate 10 rfl)); (intro _; rfl); (intro _; (repeat (first | exact List.Sublist.refl _ | exact List.nil_sublist _ | apply List.Sublist.cons_cons | apply List.Sublist.cons))); intro _ _) | (apply TL.val; rfl; rfl; (first | exact vpure | exact vread)) | (apply GT.pure; (iterate 4 rfl); (first | exact vpure); decide +kernel) | (apply GT.read; (iterate 4 rfl); (first | exact vpure | exact vread); decide +kernel) | (apply GT.done; decide +kernel; apply N.ofQ) | (apply GT.adv; rfl) | (apply TL.x; rfl; rfl; (first | exact xgrow | exact xput); intro _ _) | (apply GS.grow; rfl; rfl; (first | exact xgrow); intro _ _) | (apply GS.eff; rfl; decide +kernel; rfl; (first | exact xput); intro _ _) | (apply TL.guard; rfl; rfl; rfl; (exact isx); intro _; rotate_left; intro _; rotate_right) | (apply GT.guard; (iterate 4 rfl); (exact isx); intro _; rotate_left; intro _; rotate_right) | (apply GT.fork1; decide +kernel) | (apply GT.fork2 1; decide +kernel) | (apply GT.fork2 2; decide +kernel) | (apply GT.fork2 3; decide +kernel) | (apply GT.fork2 4; decide +kernel) | (apply GT.fork2 5; decide +kernel) | (apply GT.fork2 6; decide +kernel) | (apply GT.fork2 7; decide +kernel) | (apply GT.fork2 8; decide +kernel) | (apply GT.fork2 9; decide +kernel) | (apply GT.fork2 10; decide +kernel) | (apply GT.fork2 11; decide +kernel) | (apply GT.fork2 12; decide +kernel) | (apply GT.fork2 13; decide +kernel) | (apply GT.fork2 14; decide +kernel)))
      all_goals
        apply N.ret3; rfl; (exact rvx); (exact rvx); (exact rvx)
        intro w1 hst
        have hg1 := Enc.mono hp2.2.2 hp1.1.2
        have hc : Fwd.c { p1.2.1 with til := now + 5 } = startC q own l.els id now := by
          have e1 := hp1.1.1
          rw [startF_c] at e1
          have e2 : Fwd.c { p1.2.1 with til := now + 5 } = { p1.2.1.c with til := now + 5 } := rfl
          rw [e2, e1]; rfl
        refine ⟨(p2.1, { p1.2.1 with til := now + 5 }, queryMsg { p1.2.1 with til := now + 5 }), ⟨⟨hc, ?_⟩, ⟨hg1.1, hg1.2.1, hg1.2.2.1, hg1.2.2.2.1, hg1.2.2.2.2.1, (show I64 (now + 5) from ⟨by omega, by omega⟩), hg1.2.2.2.2.2.2.1, hg1.2.2.2.2.2.2.2⟩, h0.good⟩, rfl, hst.fresh⟩
        show queryOf (Fwd.c { p1.2.1 with til := now + 5 }) = _
        rw [hc]
end Go.Proofs.YtpnoabbdcakjkaaGreatDoor
