/- Walks: what travels. -/
import Derived.Test.YtpnoabbdcakjkaaGreatDoorQWM
import Derived.Test.YtpnoabbdcakjkaaGreatDoorQWH
namespace Go.Proofs.YtpnoabbdcakjkaaGreatDoor
set_option linter.unusedVariables false
set_option linter.unusedSimpArgs false
open Go Go.RowKit
open Enc (enc)
set_option maxRecDepth 20000

section
variable {P : Program} {n : FK} {S : World → Prop} {env : List (Nat × Value)}
theorem V.buildArr [Tys P] {t e m : Nat} {parts : Array (Nat × Operand)} {k ke : TyK} {ps : List (Nat × Value)} {zs cs : List Value} (hk : tyk P t = some k) (hd : k.desc = .array m e) (hke : tyk P e = some ke)
    (hp : evp env parts.toList = some ps) (hz : k.zero.cells = zs.toArray) (hf : fillL (fun i => some (i * ke.size, ke.size)) zs ps = some cs) : V P n S env (.build t parts) (.agg cs.toArray) :=
  ⟨fun o a w ho hfr _ => by
    obtain ⟨d, hu, hf'⟩ := (tyk_ok hk).und
    rw [hd] at hf'
    simp only [TyD.fits] at hf'
    subst hf'
    have hparts : parts.map (fun (p : Nat × Operand) => (p.1, a.eval p.2)) = ps.toArray := by
      apply Array.toList_inj.1
      simpa using hfr.evp hp
    have hfill := fill_eq _ _ _ _ hf
    unfold execOp; rw [ho]
    simp only [hparts, Instr.build, Sem.run_bind, (tyk_ok hk).zeroRun w, Result.andThen_ok, run_underlying hu, (tyk_ok hke).sizeOf w, hz, hfill]
    rfl⟩
end
def travelsM (m : Msg) (f : Int) : Msg := if f = 1 then { m with id := (m.id + 1).tmod 65536 } else if f = 2 then { m with frm := m.frm.tmod 1000000 + 1 } else if f = 3 then { m with ans := ⟨6, Slc.nil _, []⟩ } else m
theorem travelsM_c (m : Msg) (f : Int) : (travelsM m f).c = travelsC m.c f := by
  unfold travelsM travelsC
  split
  · rfl
  · split
    · rfl
    · split
      · rfl
      · rfl
theorem msg_head {m : Msg} (hlen : m.ans.sets.els.length = m.ans.sets.len) (hok : msgOK m.c = true) : (0 ≤ m.id ∧ m.id ≤ 65535) ∧ (1 ≤ m.frm ∧ m.frm ≤ 1000000) :=
  ⟨((msgOK_iff m hlen).1 hok).1.1, ((msgOK_iff m hlen).1 hok).1.2.1⟩
theorem travelsM_good {H : Hp} {m : Msg} (hg : Enc.good H m) (h1 : 0 ≤ m.id ∧ m.id ≤ 65535) (h2 : 1 ≤ m.frm ∧ m.frm ≤ 1000000) (f : Int) : Enc.good H (travelsM m f) := by
  have e1 : (m.id + 1).tmod 65536 = (m.id + 1) % 65536 := Int.tmod_eq_emod_of_nonneg (by omega)
  have e2 : m.frm.tmod 1000000 = m.frm % 1000000 := Int.tmod_eq_emod_of_nonneg (by omega)
  obtain ⟨g1, g2, g3, g4, g5, g6⟩ := hg
  unfold travelsM
  split
  · exact ⟨g1, by show I64 ((m.id + 1).tmod 65536); rw [e1]; constructor <;> omega, g3, g4, g5, g6⟩
  · split
    · exact ⟨g1, g2, by show I64 (m.frm.tmod 1000000 + 1); rw [e2]; constructor <;> omega, g4, g5, g6⟩
    · split
      · exact ⟨g1, g2, g3, g4, g5, by show I64 6; decide, Slc.nil_good, by show LenOk []; decide⟩
      · exact ⟨g1, g2, g3, g4, g5, g6⟩
theorem c_tr2 (m : Msg) (w0 w : World) (H0 H : Hp) (L : List Loc) (i b : Nat) (hi : L[i]? = some (.blk b 33 (enc m))) (hs : St w0 H0 H L w) (h1 : 0 ≤ m.id ∧ m.id ≤ 65535) (h2 : 1 ≤ m.frm ∧ m.frm ≤ 1000000) : CallsIn (FW none) 0 Tryz.prog 64 #[.pointer (some ⟨b, 0, none⟩)] w (fun e w' => ∃ g : Unit, True ∧ e = .returned (.tuple #[]) ∧ St w0 H0 H (L.set i (.blk b 33 (enc ({ m with id := (m.id + 1).tmod 65536 })))) w') := by
  refine T.enterIn (vs := [.pointer (some ⟨b, 0, none⟩)]) Tryz.func64 rfl rfl rfl hs ?_
  repeat (any_goals (first | refine T.seq ?_ | refine T.region ?_ | refine TL.nil ?_ | refine N.next ?_ | refine N.inBlock ?_ | refine N.exit_same ?_ | refine N.exit_then ?_ | refine N.ret_then ?_ | refine N.ret_block ?_ | (apply N.exit_other; rfl) | refine T.ret ?_ | refine T.skip ?_ | refine T.exit ?_ | refine T.block ?_ | (apply T.cond_true; rfl) | (apply T.cond_false; rfl) | (apply T.test; rfl; (exact isx); intro _; rotate_left; intro _; rotate_right) | (apply TL.skip; rfl; rfl; rfl) | (apply TL.skip_none; rfl; rfl) | (apply TL.val; rfl; rfl; (apply V.nilCheck; rfl)) | (apply TL.val; rfl; rfl; (apply V.load_loc; rfl; rfl; rfl; exact List.mem_of_getElem? hi; rfl)) | (apply TL.val; rfl; rfl; (apply V.build; (iterate 6 rfl))) | (apply TL.x; rfl; rfl; (apply X.store i; rfl; rfl; rfl; exact hi; (iterate 5 rfl)); intro _ _) | (apply TL.val; rfl; rfl; (first | exact vpure | exact vread)) | (apply TL.x; rfl; rfl; (first | exact xgrow | exact xput); intro _ _) | (apply TL.guard; rfl; rfl; rfl; (exact isx); intro _; rotate_left; intro _; rotate_right)))
  first | apply N.end0 | apply N.ret0
  rfl
  intro w1 hst
  exact ⟨(), trivial, rfl, hst⟩
theorem c_tr3 (m : Msg) (w0 w : World) (H0 H : Hp) (L : List Loc) (i b : Nat) (hi : L[i]? = some (.blk b 33 (enc m))) (hs : St w0 H0 H L w) (h1 : 0 ≤ m.id ∧ m.id ≤ 65535) (h2 : 1 ≤ m.frm ∧ m.frm ≤ 1000000) : CallsIn (FW none) 0 Tryz.prog 65 #[.pointer (some ⟨b, 0, none⟩)] w (fun e w' => ∃ g : Unit, True ∧ e = .returned (.tuple #[]) ∧ St w0 H0 H (L.set i (.blk b 33 (enc ({ m with frm := m.frm.tmod 1000000 + 1 })))) w') := by
  have e2 : m.frm.tmod 1000000 = m.frm % 1000000 := Int.tmod_eq_emod_of_nonneg (by omega)
  refine T.enterIn (vs := [.pointer (some ⟨b, 0, none⟩)]) Tryz.func65 rfl rfl rfl hs ?_
  repeat (any_goals (first | refine T.seq ?_ | refine T.region ?_ | refine TL.nil ?_ | refine N.next ?_ | refine N.inBlock ?_ | refine N.exit_same ?_ | refine N.exit_then ?_ | refine N.ret_then ?_ | refine N.ret_block ?_ | (apply N.exit_other; rfl) | refine T.ret ?_ | refine T.skip ?_ | refine T.exit ?_ | refine T.block ?_ | (apply T.cond_true; rfl) | (apply T.cond_false; rfl) | (apply T.test; rfl; (exact isx); intro _; rotate_left; intro _; rotate_right) | (apply TL.skip; rfl; rfl; rfl) | (apply TL.skip_none; rfl; rfl) | (apply TL.val; rfl; rfl; (apply V.nilCheck; rfl)) | (apply TL.val; rfl; rfl; (apply V.load_loc; rfl; rfl; rfl; exact List.mem_of_getElem? hi; rfl)) | (apply TL.val; rfl; rfl; (apply V.build; (iterate 6 rfl))) | (apply TL.x; rfl; rfl; (apply X.store i; rfl; rfl; rfl; exact hi; (iterate 5 rfl)); intro _ _) | (apply TL.val; rfl; rfl; (first | exact vpure | exact vread)) | (apply TL.x; rfl; rfl; (first | exact xgrow | exact xput); intro _ _) | (apply TL.guard; rfl; rfl; rfl; (exact isx); intro _; rotate_left; intro _; rotate_right)))
  first | apply N.end0 | apply N.ret0
  rfl
  intro w1 hst
  exact ⟨(), trivial, rfl, hst⟩
theorem c_tr4 (m : Msg) (w0 w : World) (H0 H : Hp) (L : List Loc) (i b : Nat) (hi : L[i]? = some (.blk b 33 (enc m))) (hs : St w0 H0 H L w) (h1 : 0 ≤ m.id ∧ m.id ≤ 65535) (h2 : 1 ≤ m.frm ∧ m.frm ≤ 1000000) : CallsIn (FW none) 0 Tryz.prog 66 #[.pointer (some ⟨b, 0, none⟩)] w (fun e w' => ∃ g : Unit, True ∧ e = .returned (.tuple #[]) ∧ St w0 H0 H (L.set i (.blk b 33 (enc ({ m with ans := ⟨6, Slc.nil _, []⟩ })))) w') := by
  refine T.enterIn (vs := [.pointer (some ⟨b, 0, none⟩)]) Tryz.func66 rfl rfl rfl hs ?_
  repeat (any_goals (first | refine T.seq ?_ | refine T.region ?_ | refine TL.nil ?_ | refine N.next ?_ | refine N.inBlock ?_ | refine N.exit_same ?_ | refine N.exit_then ?_ | refine N.ret_then ?_ | refine N.ret_block ?_ | (apply N.exit_other; rfl) | refine T.ret ?_ | refine T.skip ?_ | refine T.exit ?_ | refine T.block ?_ | (apply T.cond_true; rfl) | (apply T.cond_false; rfl) | (apply T.test; rfl; (exact isx); intro _; rotate_left; intro _; rotate_right) | (apply TL.skip; rfl; rfl; rfl) | (apply TL.skip_none; rfl; rfl) | (apply TL.val; rfl; rfl; (apply V.nilCheck; rfl)) | (apply TL.val; rfl; rfl; (apply V.load_loc; rfl; rfl; rfl; exact List.mem_of_getElem? hi; rfl)) | (apply TL.val; rfl; rfl; (apply V.build; (iterate 6 rfl))) | (apply TL.x; rfl; rfl; (apply X.store i; rfl; rfl; rfl; exact hi; (iterate 5 rfl)); intro _ _) | (apply TL.val; rfl; rfl; (first | exact vpure | exact vread)) | (apply TL.x; rfl; rfl; (first | exact xgrow | exact xput); intro _ _) | (apply TL.guard; rfl; rfl; rfl; (exact isx); intro _; rotate_left; intro _; rotate_right)))
  first | apply N.end0 | apply N.ret0
  rfl
  intro w1 hst
  exact ⟨(), trivial, rfl, hst⟩
theorem c_tr1 (w0 w : World) (H0 H : Hp) (L : List Loc) (b : Nat) (hs : St w0 H0 H L w) : CallsIn (FW none) 0 Tryz.prog 63 #[.pointer (some ⟨b, 0, none⟩)] w (fun e w' => ∃ g : Unit, True ∧ e = .returned (.tuple #[]) ∧ St w0 H0 H L w') := by
  refine T.enterIn (vs := [.pointer (some ⟨b, 0, none⟩)]) Tryz.func63 rfl rfl rfl hs ?_
  repeat (any_goals (first | refine T.seq ?_ | refine T.region ?_ | refine TL.nil ?_ | refine N.next ?_ | refine N.inBlock ?_ | refine N.exit_same ?_ | refine N.exit_then ?_ | refine N.ret_then ?_ | refine N.ret_block ?_ | (apply N.exit_other; rfl) | refine T.ret ?_ | refine T.skip ?_ | refine T.exit ?_ | refine T.block ?_ | (apply T.cond_true; rfl) | (apply T.cond_false; rfl) | (apply T.test; rfl; (exact isx); intro _; rotate_left; intro _; rotate_right) | (apply TL.skip; rfl; rfl; rfl) | (apply TL.skip_none; rfl; rfl) | (apply TL.val; rfl; rfl; (first | exact vpure | exact vread)) | (apply TL.x; rfl; rfl; (first | exact xgrow | exact xput); intro _ _) | (apply TL.guard; rfl; rfl; rfl; (exact isx); intro _; rotate_left; intro _; rotate_right)))
  first | apply N.end0 | apply N.ret0
  rfl
  intro w1 hst
  exact ⟨(), trivial, rfl, hst⟩
set_option maxHeartbeats 1000000 in
theorem c_travels (m : Msg) (f : Int) (H : Hp) (w : World) (hs : Sat H w) (hg : Enc.good H m) (hok : msgOK m.c = true) (hf : 0 ≤ f ∧ f ≤ 3) : Calls Tryz.prog 31 #[.agg (enc m).toArray, intV f] w (RetF w H (fun p : Hp × Msg => p.2.c = travelsC m.c f ∧ Enc.good p.1 p.2) (fun p => .agg (enc p.2).toArray) (fun p => p.1)) := by
  have hlen : m.ans.sets.els.length = m.ans.sets.len := hg.2.2.2.2.2.2.1.len
  obtain ⟨hb1, hb2⟩ := msg_head hlen hok
  have hb : ∀ m' : Msg, m'.c = m.c → (0 ≤ m'.id ∧ m'.id ≤ 65535) ∧ (1 ≤ m'.frm ∧ m'.frm ≤ 1000000) := fun m' h => by
    obtain ⟨_, e1, e2, _⟩ := msg_eq.1 h
    rw [e1, e2]; exact ⟨hb1, hb2⟩
  have hf4 : f = 0 ∨ f = 1 ∨ f = 2 ∨ f = 3 := by omega
  rcases hf4 with rfl | rfl | rfl | rfl
  · refine T.enter (vs := [.agg (enc m).toArray, intV 0]) (H := H) Tryz.func31 rfl rfl rfl hs ?_
    repeat (any_goals (first | refine T.seq ?_ | refine T.region ?_ | refine TL.nil ?_ | refine N.next ?_ | refine N.inBlock ?_ | refine N.exit_same ?_ | refine N.exit_then ?_ | refine N.ret_then ?_ | refine N.ret_block ?_ | (apply N.exit_other; rfl) | refine T.ret ?_ | refine T.skip ?_ | refine T.exit ?_ | refine T.block ?_ | (apply T.cond_true; rfl) | (apply T.cond_false; rfl) | (apply T.test; rfl; (exact isx); intro _; rotate_left; intro _; rotate_right) | (apply TL.skip; rfl; rfl; rfl) | (apply TL.skip_none; rfl; rfl) | (apply TL.val; rfl; rfl; (apply V.buildArr; (iterate 6 rfl))) | (apply TL.x; rfl; rfl; (apply X.callF0 (f := 30) Tryz.call30; rfl; rfl; (exact fun _ hs => c_cloned m _ _ hs.sat hg hok)); intro _ _) | (apply TL.val; rfl; rfl; (apply V.elemArrI; (iterate 5 rfl); decide)) | (apply TL.val; rfl; rfl; (first | exact vpure | exact vread)) | (apply TL.x; rfl; rfl; (first | exact xgrow | exact xput); intro _ _) | (apply TL.guard; rfl; rfl; rfl; (exact isx); intro _; rotate_left; intro _; rotate_right)))
    rename_i p hp _ _
    obtain ⟨⟨hm1, hg1⟩, hle1⟩ := hp
    obtain ⟨H1, m1⟩ := p
    simp only at hm1 hg1 hle1 ⊢
    repeat (any_goals (first | refine T.seq ?_ | refine T.region ?_ | refine TL.nil ?_ | refine N.next ?_ | refine N.inBlock ?_ | refine N.exit_same ?_ | refine N.exit_then ?_ | refine N.ret_then ?_ | refine N.ret_block ?_ | (apply N.exit_other; rfl) | refine T.ret ?_ | refine T.skip ?_ | refine T.exit ?_ | refine T.block ?_ | (apply T.cond_true; rfl) | (apply T.cond_false; rfl) | (apply T.test; rfl; (exact isx); intro _; rotate_left; intro _; rotate_right) | (apply TL.skip; rfl; rfl; rfl) | (apply TL.skip_none; rfl; rfl) | (apply TL.x; rfl; rfl; (apply X.callS; rfl; rfl; rfl; exact Tryz.call63; exact fun _ hs => c_tr1 _ _ _ _ _ _ hs); intro _ _) | (apply TL.val; rfl; rfl; (first | exact vpure | exact vread)) | (apply TL.x; rfl; rfl; (first | exact xgrow | exact xput); intro _ _) | (apply TL.guard; rfl; rfl; rfl; (exact isx); intro _; rotate_left; intro _; rotate_right)))
    apply N.ret1; rfl; (exact rvx)
    intro w1 hst
    refine ⟨(H1, travelsM m1 0), ⟨?_, travelsM_good hg1 (hb m1 hm1).1 (hb m1 hm1).2 0⟩, rfl, hst.fresh⟩
    show (travelsM m1 0).c = _
    rw [travelsM_c, hm1]
  · refine T.enter (vs := [.agg (enc m).toArray, intV 1]) (H := H) Tryz.func31 rfl rfl rfl hs ?_
    repeat (any_goals (first | refine T.seq ?_ | refine T.region ?_ | refine TL.nil ?_ | refine N.next ?_ | refine N.inBlock ?_ | refine N.exit_same ?_ | refine N.exit_then ?_ | refine N.ret_then ?_ | refine N.ret_block ?_ | (apply N.exit_other; rfl) | refine T.ret ?_ | refine T.skip ?_ | refine T.exit ?_ | refine T.block ?_ | (apply T.cond_true; rfl) | (apply T.cond_false; rfl) | (apply T.test; rfl; (exact isx); intro _; rotate_left; intro _; rotate_right) | (apply TL.skip; rfl; rfl; rfl) | (apply TL.skip_none; rfl; rfl) | (apply TL.val; rfl; rfl; (apply V.buildArr; (iterate 6 rfl))) | (apply TL.x; rfl; rfl; (apply X.callF0 (f := 30) Tryz.call30; rfl; rfl; (exact fun _ hs => c_cloned m _ _ hs.sat hg hok)); intro _ _) | (apply TL.val; rfl; rfl; (apply V.elemArrI; (iterate 5 rfl); decide)) | (apply TL.val; rfl; rfl; (first | exact vpure | exact vread)) | (apply TL.x; rfl; rfl; (first | exact xgrow | exact xput); intro _ _) | (apply TL.guard; rfl; rfl; rfl; (exact isx); intro _; rotate_left; intro _; rotate_right)))
    rename_i p hp _ _
    obtain ⟨⟨hm1, hg1⟩, hle1⟩ := hp
    obtain ⟨H1, m1⟩ := p
    simp only at hm1 hg1 hle1 ⊢
    repeat (any_goals (first | refine T.seq ?_ | refine T.region ?_ | refine TL.nil ?_ | refine N.next ?_ | refine N.inBlock ?_ | refine N.exit_same ?_ | refine N.exit_then ?_ | refine N.ret_then ?_ | refine N.ret_block ?_ | (apply N.exit_other; rfl) | refine T.ret ?_ | refine T.skip ?_ | refine T.exit ?_ | refine T.block ?_ | (apply T.cond_true; rfl) | (apply T.cond_false; rfl) | (apply T.test; rfl; (exact isx); intro _; rotate_left; intro _; rotate_right) | (apply TL.skip; rfl; rfl; rfl) | (apply TL.skip_none; rfl; rfl) | (apply TL.x; rfl; rfl; (apply X.callS; rfl; rfl; rfl; exact Tryz.call64; exact fun _ hs => c_tr2 m1 _ _ _ _ _ 2 _ rfl hs (hb m1 hm1).1 (hb m1 hm1).2); intro _ _) | (apply TL.val; rfl; rfl; (first | exact vpure | exact vread)) | (apply TL.x; rfl; rfl; (first | exact xgrow | exact xput); intro _ _) | (apply TL.guard; rfl; rfl; rfl; (exact isx); intro _; rotate_left; intro _; rotate_right)))
    apply N.ret1; rfl; (exact rvx)
    intro w1 hst
    refine ⟨(H1, travelsM m1 1), ⟨?_, travelsM_good hg1 (hb m1 hm1).1 (hb m1 hm1).2 1⟩, rfl, hst.fresh⟩
    show (travelsM m1 1).c = _
    rw [travelsM_c, hm1]
  · refine T.enter (vs := [.agg (enc m).toArray, intV 2]) (H := H) Tryz.func31 rfl rfl rfl hs ?_
    repeat (any_goals (first | refine T.seq ?_ | refine T.region ?_ | refine TL.nil ?_ | refine N.next ?_ | refine N.inBlock ?_ | refine N.exit_same ?_ | refine N.exit_then ?_ | refine N.ret_then ?_ | refine N.ret_block ?_ | (apply N.exit_other; rfl) | refine T.ret ?_ | refine T.skip ?_ | refine T.exit ?_ | refine T.block ?_ | (apply T.cond_true; rfl) | (apply T.cond_false; rfl) | (apply T.test; rfl; (exact isx); intro _; rotate_left; intro _; rotate_right) | (apply TL.skip; rfl; rfl; rfl) | (apply TL.skip_none; rfl; rfl) | (apply TL.val; rfl; rfl; (apply V.buildArr; (iterate 6 rfl))) | (apply TL.x; rfl; rfl; (apply X.callF0 (f := 30) Tryz.call30; rfl; rfl; (exact fun _ hs => c_cloned m _ _ hs.sat hg hok)); intro _ _) | (apply TL.val; rfl; rfl; (apply V.elemArrI; (iterate 5 rfl); decide)) | (apply TL.val; rfl; rfl; (first | exact vpure | exact vread)) | (apply TL.x; rfl; rfl; (first | exact xgrow | exact xput); intro _ _) | (apply TL.guard; rfl; rfl; rfl; (exact isx); intro _; rotate_left; intro _; rotate_right)))
    rename_i p hp _ _
    obtain ⟨⟨hm1, hg1⟩, hle1⟩ := hp
    obtain ⟨H1, m1⟩ := p
    simp only at hm1 hg1 hle1 ⊢
    repeat (any_goals (first | refine T.seq ?_ | refine T.region ?_ | refine TL.nil ?_ | refine N.next ?_ | refine N.inBlock ?_ | refine N.exit_same ?_ | refine N.exit_then ?_ | refine N.ret_then ?_ | refine N.ret_block ?_ | (apply N.exit_other; rfl) | refine T.ret ?_ | refine T.skip ?_ | refine T.exit ?_ | refine T.block ?_ | (apply T.cond_true; rfl) | (apply T.cond_false; rfl) | (apply T.test; rfl; (exact isx); intro _; rotate_left; intro _; rotate_right) | (apply TL.skip; rfl; rfl; rfl) | (apply TL.skip_none; rfl; rfl) | (apply TL.x; rfl; rfl; (apply X.callS; rfl; rfl; rfl; exact Tryz.call65; exact fun _ hs => c_tr3 m1 _ _ _ _ _ 2 _ rfl hs (hb m1 hm1).1 (hb m1 hm1).2); intro _ _) | (apply TL.val; rfl; rfl; (first | exact vpure | exact vread)) | (apply TL.x; rfl; rfl; (first | exact xgrow | exact xput); intro _ _) | (apply TL.guard; rfl; rfl; rfl; (exact isx); intro _; rotate_left; intro _; rotate_right)))
    apply N.ret1; rfl; (exact rvx)
    intro w1 hst
    refine ⟨(H1, travelsM m1 2), ⟨?_, travelsM_good hg1 (hb m1 hm1).1 (hb m1 hm1).2 2⟩, rfl, hst.fresh⟩
    show (travelsM m1 2).c = _
    rw [travelsM_c, hm1]
  · refine T.enter (vs := [.agg (enc m).toArray, intV 3]) (H := H) Tryz.func31 rfl rfl rfl hs ?_
    repeat (any_goals (first | refine T.seq ?_ | refine T.region ?_ | refine TL.nil ?_ | refine N.next ?_ | refine N.inBlock ?_ | refine N.exit_same ?_ | refine N.exit_then ?_ | refine N.ret_then ?_ | refine N.ret_block ?_ | (apply N.exit_other; rfl) | refine T.ret ?_ | refine T.skip ?_ | refine T.exit ?_ | refine T.block ?_ | (apply T.cond_true; rfl) | (apply T.cond_false; rfl) | (apply T.test; rfl; (exact isx); intro _; rotate_left; intro _; rotate_right) | (apply TL.skip; rfl; rfl; rfl) | (apply TL.skip_none; rfl; rfl) | (apply TL.val; rfl; rfl; (apply V.buildArr; (iterate 6 rfl))) | (apply TL.x; rfl; rfl; (apply X.callF0 (f := 30) Tryz.call30; rfl; rfl; (exact fun _ hs => c_cloned m _ _ hs.sat hg hok)); intro _ _) | (apply TL.val; rfl; rfl; (apply V.elemArrI; (iterate 5 rfl); decide)) | (apply TL.val; rfl; rfl; (first | exact vpure | exact vread)) | (apply TL.x; rfl; rfl; (first | exact xgrow | exact xput); intro _ _) | (apply TL.guard; rfl; rfl; rfl; (exact isx); intro _; rotate_left; intro _; rotate_right)))
    rename_i p hp _ _
    obtain ⟨⟨hm1, hg1⟩, hle1⟩ := hp
    obtain ⟨H1, m1⟩ := p
    simp only at hm1 hg1 hle1 ⊢
    repeat (any_goals (first | refine T.seq ?_ | refine T.region ?_ | refine TL.nil ?_ | refine N.next ?_ | refine N.inBlock ?_ | refine N.exit_same ?_ | refine N.exit_then ?_ | refine N.ret_then ?_ | refine N.ret_block ?_ | (apply N.exit_other; rfl) | refine T.ret ?_ | refine T.skip ?_ | refine T.exit ?_ | refine T.block ?_ | (apply T.cond_true; rfl) | (apply T.cond_false; rfl) | (apply T.test; rfl; (exact isx); intro _; rotate_left; intro _; rotate_right) | (apply TL.skip; rfl; rfl; rfl) | (apply TL.skip_none; rfl; rfl) | (apply TL.x; rfl; rfl; (apply X.callS; rfl; rfl; rfl; exact Tryz.call66; exact fun _ hs => c_tr4 m1 _ _ _ _ _ 2 _ rfl hs (hb m1 hm1).1 (hb m1 hm1).2); intro _ _) | (apply TL.val; rfl; rfl; (first | exact vpure | exact vread)) | (apply TL.x; rfl; rfl; (first | exact xgrow | exact xput); intro _ _) | (apply TL.guard; rfl; rfl; rfl; (exact isx); intro _; rotate_left; intro _; rotate_right)))
    apply N.ret1; rfl; (exact rvx)
    intro w1 hst
    refine ⟨(H1, travelsM m1 3), ⟨?_, travelsM_good hg1 (hb m1 hm1).1 (hb m1 hm1).2 3⟩, rfl, hst.fresh⟩
    show (travelsM m1 3).c = _
    rw [travelsM_c, hm1]
end Go.Proofs.YtpnoabbdcakjkaaGreatDoor
