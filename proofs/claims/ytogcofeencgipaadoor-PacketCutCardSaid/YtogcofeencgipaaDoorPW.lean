/- The law PacketDamage. -/
import Derived.Test.YtogcofeencgipaaDoorPU
set_option pp.deepTerms true
set_option pp.maxSteps 10000000
namespace Go.Proofs.YtogcofeencgipaaDoor
set_option linter.unusedVariables false
set_option linter.unusedSimpArgs false
open Go Go.RowKit
open Enc (enc)
set_option maxRecDepth 20000
section
variable {P : Program} {n : FK} {S : World → Prop} {env : List (Nat × Value)}
theorem V.remN {t u : TypeId} {x y : Operand} {i j : Nat} (hx : ev env x = some (intV i)) (hy : ev env y = some (intV j)) (hj : 0 < j) : V P n S env (.binOp .rem t x y u) (intV ((i % j : Nat) : Int)) := by
  have h := V.rem (P := P) (n := n) (S := S) (t := t) (u := u) hx hy (by omega)
  rwa [← Int.ofNat_tmod] at h
theorem V.xorB {t u : TypeId} {x y : Operand} {c d : UInt8} (hx : ev env x = some (.int .u8 c.toNat)) (hy : ev env y = some (.int .u8 d.toNat)) : V P n S env (.binOp .xor t x y u) (.int .u8 ((c ^^^ d).toNat : Nat)) :=
  ⟨fun o A w ho hf _ => by
    have h1 := c.toNat_lt
    have h2 := d.toNat_lt
    have e1 : (BitVec.ofInt 8 (c.toNat : Int)).toNat = c.toNat := by rw [BitVec.toNat_ofInt]; omega
    have e2 : (BitVec.ofInt 8 (d.toNat : Int)).toNat = d.toNat := by rw [BitVec.toNat_ofInt]; omega
    have e3 : (BitVec.ofInt 8 (c.toNat : Int) ^^^ BitVec.ofInt 8 (d.toNat : Int)).toNat = (c ^^^ d).toNat := by
      rw [BitVec.toNat_xor, e1, e2, UInt8.toNat_xor]
    have h3 := (c ^^^ d).toNat_lt
    have e4 : IntKind.u8.wrap (((c ^^^ d).toNat : Nat) : Int) = (((c ^^^ d).toNat : Nat) : Int) := IntWalk.u8_in _ (by omega)
    unfold execOp; rw [ho]
    simp only [hf.ev hx, hf.ev hy, binOp, eqGuard, Op.intBits]
    simp [IntKind.bits, -BitVec.toNat_xor]
    rw [UInt8.toNat_xor] at e4
    show IntKind.u8.wrap ((c.toNat ^^^ d.toNat : Nat) : Int) = _
    exact e4⟩
end
theorem xor_ne {x c : UInt8} (h : c ≠ 0) : x ^^^ c ≠ x := fun e => h (by
  have h1 := congrArg (fun y => x ^^^ y) e
  simpa [← UInt8.xor_assoc] using h1)
section
variable {P : Program} {n : FK} {w0 : World} {H0 H : Hp} {Q : Exit → Act → World → Prop} {env : List (Nat × Value)} {L : List Loc} {ops rest : List Oper}
/-- A row that has elements has a block. -/
theorem TL.rowNone (i : Nat) {e : TypeId} {size m c : Nat} {xs : List Value} (hi : L[i]? = some (.row (.slice none m c) e size m xs)) (hm : 0 < m) : TL P n w0 H0 ops Q rest env H L := ⟨fun a w hf hs => by
  obtain ⟨o, c', h1, h2⟩ := hs.rowShape (List.mem_of_getElem? hi)
  cases o with
  | none => have := (h2 rfl).1; omega
  | some g => cases h1⟩
end
set_option maxHeartbeats 4000000 in
theorem c_PDamage0 (m : Msg) (at_ : Nat) (c : UInt8) (H : Hp) (w : World) (hs : Sat H w) (hR : Rules H) (hm : Enc.good H m) (hat : at_ ≤ 65535) : Calls Tryd.prog 3 #[.agg (enc m).toArray, .int .u16 at_, .int .u8 c.toNat] w (Ret w (.bool true)) := by
  have hsum := sums_ok hm
  obtain ⟨⟨B, e⟩, hb⟩ : ∃ p, bytesC m.c = p := ⟨_, rfl⟩
  refine T.enter (vs := [.agg (enc m).toArray, .int .u16 at_, .int .u8 c.toNat]) (H := H) Tryd.func3 rfl rfl rfl hs ?_
  repeat (any_goals (first | (apply T.seqU 7; rfl) | refine T.region ?_ | refine TL.nil ?_ | refine N.next ?_ | refine N.inBlock ?_ | refine N.exit_same ?_ | refine N.exit_then ?_ | refine N.ret_then ?_ | refine N.ret_block ?_ | (apply N.exit_other; rfl) | refine T.ret ?_ | refine T.skip ?_ | refine T.exit ?_ | refine T.block ?_ | (apply T.cond_true; rfl) | (apply T.cond_false; rfl) | (apply T.test; rfl; (with_reducible (first | exact Is.ndec | exact Is.dec | exact Is.not | ((fail_if_success exact Is.litT); (fail_if_success exact Is.litF); exact Is.base))); intro _; rotate_left; intro _; rotate_right) | (apply TL.skip; rfl; rfl; rfl) | (apply TL.skip_none; rfl; rfl) | (apply TL.x; rfl; rfl; (apply X.box (d := 3); rfl; rfl; rfl); intro b3 _) | (apply TL.callE (f := 5) [] Tryd.call5; rfl; rfl; rfl; rfl; (exact fun _ hs => c_head26 _ _ hs.sat hR)) | (apply TL.callE (f := 6) [.agg (enc m).toArray] Tryd.call6; rfl; rfl; rfl; rfl; (exact fun _ hs => c_Few26 m _ _ hs.sat hm)) | (apply TL.x; rfl; rfl; (apply X.callFE (d := 24) (f := 7) [.agg (enc m).toArray] Tryd.call7; rfl; rfl; rfl; exact (fun _ hs => c_pBytesL (m := m) hb hs.sat hR hm)); intro p1 hp1; have hR := Rules.mono hp1.2 hR; have hb1 := hp1.1.2; have hl1 := hp1.1.2.len; have hlm1 := hp1.1.2.lim) | (apply TL.val; rfl; rfl; (first | exact vpure | exact vread)) | (apply TL.x; rfl; rfl; (first | exact xgrow | exact xput); intro _ _) | (apply TL.guard; rfl; rfl; rfl; (with_reducible (first | exact Is.ndec | exact Is.dec | exact Is.not | ((fail_if_success exact Is.litT); (fail_if_success exact Is.litF); exact Is.base))); intro _; rotate_left; intro _; rotate_right)))
  all_goals (try exact N.ret_bool rfl (by (exact rvx)) rfl)
  have he1 := hp1.1.1
  rw [he1] at hl1
  by_cases he : e = 0
  · subst he
    obtain ⟨_, h4, hok, hBs⟩ := read_bytes hb hsum
    have h8 := seal_len (msgB m.c)
    rw [← hBs] at h8
    have hcz : ¬ ((c.toNat : Nat) : Int) = 0 := by assumption
    have hcn : c ≠ 0 := by rintro rfl; exact hcz rfl
    obtain ⟨k, hkd⟩ : ∃ k, k = at_ % B.length := ⟨_, rfl⟩
    have hk : k < B.length := by rw [hkd]; exact Nat.mod_lt _ (by omega)
    have hki : ((at_ % p1.2.len : Nat) : Int) = (k : Int) := by rw [← hl1, hkd]
    obtain ⟨x, hx⟩ : ∃ x, B[k]? = some x := ⟨_, List.getElem?_eq_getElem hk⟩
    have hx1 : p1.2.els[k]? = some x := by rw [he1]; exact hx
    have hld : (encs p1.2.els)[0 + k * 1]? = some (.int .u8 x.toNat) := by
      have := encs_get p1.2.els k 0 x (.int .u8 x.toNat) hx1 rfl
      rwa [show k * Enc.size UInt8 + 0 = 0 + k * 1 by show k * 1 + 0 = _; omega] at this
    have hrd : readC (p1.2.els.set k (x ^^^ c)) = (msgNil, 40) := by
      rw [he1, hBs]
      rw [hBs] at hx hk h4
      refine read_damage h4 hk ?_
      rw [(List.getElem?_eq_some_iff.1 hx).2]
      exact xor_ne hcn
    have hll : (p1.2.els.set k (x ^^^ c)).length = p1.2.len := by rw [List.length_set, hp1.1.2.len]
    repeat (any_goals (first | refine T.seq ?_ | refine T.region ?_ | refine TL.nil ?_ | refine N.next ?_ | refine N.inBlock ?_ | refine N.exit_same ?_ | refine N.exit_then ?_ | refine N.ret_then ?_ | refine N.ret_block ?_ | (apply N.exit_other; rfl) | refine T.ret ?_ | refine T.skip ?_ | refine T.exit ?_ | refine T.block ?_ | (apply T.cond_true; rfl) | (apply T.cond_false; rfl) | (apply T.test; rfl; (with_reducible (first | exact Is.ndec | exact Is.dec | exact Is.not | ((fail_if_success exact Is.litT); (fail_if_success exact Is.litF); exact Is.base))); intro _; rotate_left; intro _; rotate_right) | (apply TL.skip; rfl; rfl; rfl) | (apply TL.skip_none; rfl; rfl) | (apply TL.x; rfl; rfl; (apply X.buildSlice0; rfl; rfl; rfl; rfl); intro _ _) | (apply TL.x; rfl; rfl; (apply X.appendSlcS 0 p1.2; rfl; rfl; rfl; rfl; rfl; rfl; rfl; rfl; rfl; rfl; exact hb1; (show (0 + p1.2.len) * 1 ≤ 140737488355328; omega); omega); rintro ⟨o, cp⟩ _; rcases o with _ | b42; (exact TL.rowNone 0 rfl (by omega)); simp only [Option.map_some, Nat.zero_add, List.nil_append]) | (apply TL.val; rfl; rfl; (apply V.conv; rfl; rfl; rfl; rfl; exact IntWalk.i64_in _ (by omega))) | (apply TL.val; rfl; rfl; (apply V.remN (i := at_) (j := p1.2.len); rfl; rfl; omega)) | (apply TL.val; rfl; rfl; (apply V.elem (j := k); rfl; rfl; rfl; rfl; rfl; exact hki; omega; rfl)) | (apply TL.val; rfl; rfl; (apply V.load_own (v := .int .u8 x.toNat); rfl; rfl; rfl; exact List.Mem.head _; exact hld)) | (apply TL.val; rfl; rfl; (apply V.xorB (c := x) (d := c); rfl; rfl)) | (apply TL.x; rfl; rfl; (apply X.storeRowE 0 (vs := [.int .u8 (x ^^^ c).toNat]) (ys := encs (p1.2.els.set k (x ^^^ c))); rfl; rfl; rfl; rfl; rfl; rfl; rfl; (show 0 + k * 1 + 1 ≤ p1.2.len * 1; omega); exact encs_put (j := 0) hx1 (by show 0 + 1 ≤ 1; omega) rfl (by show 0 + k * 1 = k * 1 + 0; omega)); intro _ _) | (apply TL.val (d := 55); rfl; rfl; (apply V.move; rfl); apply TL.frzRowE 0 (p1.2.els.set k (x ^^^ c)); rfl; rfl; rfl; exact hll; (intro _ _; trivial); rintro H2 ⟨A2, n2, c2, els2⟩ e1 e2 hgs hle2; injection e1 with e11 e12 e13; subst e11 e12 e13; simp only at e2; subst e2; have hR := Rules.mono hle2 hR) | (apply TL.x; rfl; rfl; (apply X.callFE (d := 56) (f := 8) [.slice (some ⟨b42, 0, none⟩) p1.2.len c2] Tryd.call8; rfl; rfl; rfl; exact (fun _ hs => c_pReadL (bs := ⟨some ⟨b42, 0, none⟩, p1.2.len, c2, p1.2.els.set k (x ^^^ c)⟩) hrd hs.sat hR hgs)); intro p2 hp2) | (apply TL.x; rfl; rfl; (apply X.storeTo 0 (enc p2.2); rfl; rfl; rfl; rfl; rfl; rfl; rfl; rfl; rfl; rfl); intro _ _) | (apply TL.val; rfl; rfl; (apply V.build; rfl; rfl; rfl; rfl; rfl; rfl)) | (apply TL.callE (f := 9) [.agg (enc p2.2).toArray, .agg (enc msgZ).toArray] Tryd.call9; rfl; rfl; rfl; rfl; (exact fun _ hs => c_SameMsgV (r := true) p2.2 msgZ (decide_eq_true hp2.1.1) hs.sat hp2.1.2 (msgZ_good _))) | (apply TL.val; rfl; rfl; (first | exact vpure | exact vread)) | (apply TL.x; rfl; rfl; (first | exact xgrow | exact xput); intro _ _) | (apply TL.guard; rfl; rfl; rfl; (with_reducible (first | exact Is.ndec | exact Is.dec | exact Is.not | ((fail_if_success exact Is.litT); (fail_if_success exact Is.litF); exact Is.base))); intro _; rotate_left; intro _; rotate_right)))
    all_goals (try (exfalso; omega))
    all_goals (try exact N.ret_bool rfl (by (exact rvx)) rfl)
    all_goals trace_state
  · have hbe := bytes_err hb he
    have hl0 : B.length = 0 := by rw [hbe.1]; rfl
    repeat (any_goals (first | refine T.seq ?_ | refine T.region ?_ | refine TL.nil ?_ | refine N.next ?_ | refine N.inBlock ?_ | refine N.exit_same ?_ | refine N.exit_then ?_ | refine N.ret_then ?_ | refine N.ret_block ?_ | (apply N.exit_other; rfl) | refine T.ret ?_ | refine T.skip ?_ | refine T.exit ?_ | refine T.block ?_ | (apply T.cond_true; rfl) | (apply T.cond_false; rfl) | (apply T.test; rfl; (with_reducible (first | exact Is.ndec | exact Is.dec | exact Is.not | ((fail_if_success exact Is.litT); (fail_if_success exact Is.litF); exact Is.base))); intro _; rotate_left; intro _; rotate_right) | (apply TL.skip; rfl; rfl; rfl) | (apply TL.skip_none; rfl; rfl) | (apply TL.val; rfl; rfl; (first | exact vpure | exact vread)) | (apply TL.x; rfl; rfl; (first | exact xgrow | exact xput); intro _ _) | (apply TL.guard; rfl; rfl; rfl; (with_reducible (first | exact Is.ndec | exact Is.dec | exact Is.not | ((fail_if_success exact Is.litT); (fail_if_success exact Is.litF); exact Is.base))); intro _; rotate_left; intro _; rotate_right)))
    all_goals (try (exfalso; omega))
    all_goals (try (first | (apply N.ret_bool; rfl; (exact rvx)) | (apply N.ret_int; rfl; (exact rvx)) | (apply N.ret_val; rfl; (exact rvx))))
    all_goals first
      | rfl
      | exact decide_eq_true (by omega)
theorem c_PDamage (m : Msg) (at_ by_ : Int) (H : Hp) (w : World) (hs : Sat H w) (hR : Rules H) (hm : Enc.good H m) (hat : 0 ≤ at_ ∧ at_ ≤ 65535) (hby : 0 ≤ by_ ∧ by_ ≤ 255) : Calls Tryd.prog 3 #[.agg (enc m).toArray, .int .u16 at_, .int .u8 by_] w (Ret w (.bool true)) := by
  have e1 : at_ = ((at_.toNat : Nat) : Int) := by omega
  have e2 : by_ = (((UInt8.ofNat by_.toNat).toNat : Nat) : Int) := by rw [UInt8.toNat_ofNat']; omega
  rw [e1, e2]
  exact c_PDamage0 m at_.toNat (UInt8.ofNat by_.toNat) H w hs hR hm (by omega)
end Go.Proofs.YtogcofeencgipaaDoor
