/- Walks: the readers of the references: texts; a set. -/
import Derived.Test.YtogcofeencgipaaGreatDoorSPY
set_option pp.deepTerms true
set_option pp.maxSteps 10000000
namespace Go.Proofs.YtogcofeencgipaaGreatDoor
set_option linter.unusedVariables false
set_option linter.unusedSimpArgs false
open Go Go.RowKit
open Enc (enc)
set_option maxRecDepth 20000
section
variable {P : Program} {n : FK} {w0 : World} {H0 H : Hp} {env : List (Nat × Value)} {L : List Loc}
/-- Bytes of the call's own as a text. -/
theorem V.blkStr [Tys P] (i : Nat) (els : Bytes) {s t e e' : TypeId} {x : Operand} {b m : Nat} {cs : List Value} {ks ke kt : TyK} (hks : tyk P s = some ks) (hds : ks.desc = .slice e) (hke : tyk P e = some ke) (hde : ke.desc = .int .u8) (hkt : tyk P t = some kt) (hdt : kt.desc = .str) (hx : ev env x = some (.slice (some ⟨b, 0, none⟩) m m)) (hi : L[i]? = some (.blk b e' cs)) (hcs : cs = encs els) (hm : els.length = m) (hb : m ≤ maxLen) : V P n (St w0 H0 H L) env (.convert s t x) (strV els) :=
  ⟨fun op a w ho hf hs => by
    subst hcs
    obtain ⟨H1, hg, hle, h2⟩ := (hs.perm (perm_of hi)).frzBlk (α := UInt8) hm hb (fun _ _ => trivial)
    exact (V.bytesStr (q := (⟨some ⟨b, 0, none⟩, m, m, els⟩ : Slc UInt8)) hks hds hke hde hkt hdt hx hg).out op a w ho hf h2⟩
theorem V.rowStr [Tys P] (i : Nat) (els : Bytes) {s t e e' : TypeId} {x : Operand} {v : Value} {m : Nat} {ks ke kt : TyK} (hks : tyk P s = some ks) (hds : ks.desc = .slice e) (hke : tyk P e = some ke) (hde : ke.desc = .int .u8) (hkt : tyk P t = some kt) (hdt : kt.desc = .str) (hx : ev env x = some v) (hi : L[i]? = some (.row v e' 1 m (encs els))) (hm : els.length = m) : V P n (St w0 H0 H L) env (.convert s t x) (strV els) :=
  ⟨fun op a w ho hf hs => by
    obtain ⟨H1, q, h1, h2, hg, hle, h3⟩ := (hs.perm (perm_of hi)).freezeRow (α := UInt8) rfl hm (fun _ _ => trivial)
    subst h1
    rw [← h2]
    exact (V.bytesStr (q := q) hks hds hke hde hkt hdt hx hg).out op a w ho hf h3⟩
end
section
variable {w0 w : World} {H0 H : Hp} {L : List Loc} {b : Nat}
set_option maxHeartbeats 1000000 in
theorem c_word02 {s : Slc UInt8} {a : Nat} {f : Bool} (hs : St w0 H0 H (.blk b 213 [s.v, intV a, .bool f] :: L) w) (hg : s.Good H) (ha : a ≤ s.len) (hf : ok02 s a f) : CallsIn (FW none) 0 Tryz.prog 177 #[.pointer (some ⟨b, 0, none⟩)] w (RdA 213 w0 H0 H b s L (ok02 s) textCod.rd (fun x => x.length ≤ 255) (leftA s a f) (fun x => strV x)) := by
  refine T.enterIn (vs := [.pointer (some ⟨b, 0, none⟩)]) Tryz.func177 rfl rfl rfl hs ?_
  repeat (any_goals (first | refine T.seq ?_ | refine T.region ?_ | refine TL.nil ?_ | refine N.next ?_ | refine N.inBlock ?_ | refine N.exit_same ?_ | refine N.exit_then ?_ | refine N.ret_then ?_ | refine N.ret_block ?_ | (apply N.exit_other; rfl) | refine T.ret ?_ | refine T.skip ?_ | refine T.exit ?_ | refine T.block ?_ | (apply T.cond_true; rfl) | (apply T.cond_false; rfl) | (apply T.test; rfl; (with_reducible (first | exact Is.ndec | exact Is.dec | exact Is.not | ((fail_if_success exact Is.litT); (fail_if_success exact Is.litF); exact Is.base))); intro _; rotate_left; intro _; rotate_right) | (apply TL.skip; rfl; rfl; rfl) | (apply TL.skip_none; rfl; rfl) | (apply TL.x; rfl; rfl; (apply X.callS0 (d := 7) (f := 179) Tryz.call179; rfl; rfl; exact fun _ hs => c_next02 hs hg ha hf); intro p hp; obtain ⟨c, a1, f1⟩ := p; obtain ⟨ha1, hf1, hc, _⟩ := hp; simp only at ha1 hf1 hc ⊢; have hcl := c.toNat_lt) | (apply TL.val; rfl; rfl; (apply V.convW (r := .i64) (j := (c.toNat : Int)); rfl; rfl; rfl; rfl; exact IntWalk.i64_in _ (by omega))) | (apply TL.val; rfl; rfl; (first | exact vpure | exact vread)) | (apply TL.x; rfl; rfl; (first | exact xgrow | exact xput); intro _ _) | (apply TL.guard; rfl; rfl; rfl; (with_reducible (first | exact Is.ndec | exact Is.dec | exact Is.not | ((fail_if_success exact Is.litT); (fail_if_success exact Is.litF); exact Is.base))); intro _; rotate_left; intro _; rotate_right)))
  refine T.loop (G := Bytes × Nat × Bool) (fun g => [(0, .pointer (some ⟨b, 0, none⟩)), (3, intV c.toNat), (4, strV g.1), (5, intV g.1.length)]) (fun _ => H) (fun g => .blk b 213 [s.v, intV g.2.1, .bool g.2.2] :: L) (fun g => g.1.length ≤ c.toNat ∧ g.2.1 ≤ s.len ∧ ok02 s g.2.1 g.2.2 ∧ (leftA s a1 f1).bind (takeR g.1.length) = (leftA s g.2.1 g.2.2).map fun r => (g.1, r)) (fun g => c.toNat - g.1.length) ([], a1, f1) ⟨Nat.zero_le _, ha1, hf1, by cases f1 <;> simp [leftA, takeR]⟩ (by (repeat (first | exact True.intro | refine ⟨rfl, ?_⟩ | refine Sub.int rfl (by omega) ?_))) rfl (by exact List.Sublist.refl _) ?_
  rintro ⟨l, a', f'⟩ ⟨hl, ha', hf', hr⟩
  simp only at hl ha' hf' hr ⊢
  have hend : (f' = true ∨ l.length = c.toNat) → (leftA s a f).bind textCod.rd = (leftA s a' f').map fun r => (l, r) := fun h => by
    rcases h with rfl | h
    · exact byte_text hc (takeA_mono hr hl l)
    · rw [h] at hr; exact byte_text hc hr
  have hret : ∀ (h : f' = true ∨ l.length = c.toNat), l.length ≤ 255 := fun _ => by omega
  by_cases hlt : l.length < c.toNat
  · cases f' with
    | true =>
      have hend := hend (.inl rfl)
      repeat (any_goals (first | refine T.seq ?_ | refine T.region ?_ | refine TL.nil ?_ | refine N.next ?_ | refine N.inBlock ?_ | refine N.exit_same ?_ | refine N.exit_then ?_ | refine N.ret_then ?_ | refine N.ret_block ?_ | (apply N.exit_other; rfl) | refine T.ret ?_ | refine T.skip ?_ | refine T.exit ?_ | refine T.block ?_ | (apply T.cond_true; rfl) | (apply T.cond_false; rfl) | (apply T.test; rfl; (with_reducible (first | exact Is.ndec | exact Is.dec | exact Is.not | ((fail_if_success exact Is.litT); (fail_if_success exact Is.litF); exact Is.base))); intro _; rotate_left; intro _; rotate_right) | (apply TL.skip; rfl; rfl; rfl) | (apply TL.skip_none; rfl; rfl) | (apply TL.val; rfl; rfl; (apply V.nilCheck; rfl)) | (apply TL.val; rfl; rfl; (first | exact vpure | exact vread)) | (apply TL.x; rfl; rfl; (first | exact xgrow | exact xput); intro _ _) | (apply TL.guard; rfl; rfl; rfl; (with_reducible (first | exact Is.ndec | exact Is.dec | exact Is.not | ((fail_if_success exact Is.litT); (fail_if_success exact Is.litF); exact Is.base))); intro _; rotate_left; intro _; rotate_right)))
      all_goals (try (exfalso; omega))
      all_goals (try contradiction)
      all_goals (refine N.ret1 rfl (by (exact rvx)) fun w hst => ⟨(l, a', true), ⟨ha', hf', hend, by show l.length ≤ 255; omega⟩, rfl, hst⟩)
    | false =>
      repeat (any_goals (first | refine T.seq ?_ | refine T.region ?_ | refine TL.nil ?_ | refine N.next ?_ | refine N.inBlock ?_ | refine N.exit_same ?_ | refine N.exit_then ?_ | refine N.ret_then ?_ | refine N.ret_block ?_ | (apply N.exit_other; rfl) | refine T.ret ?_ | refine T.skip ?_ | refine T.exit ?_ | refine T.block ?_ | (apply T.cond_true; rfl) | (apply T.cond_false; rfl) | (apply T.test; rfl; (with_reducible (first | exact Is.ndec | exact Is.dec | exact Is.not | ((fail_if_success exact Is.litT); (fail_if_success exact Is.litF); exact Is.base))); intro _; rotate_left; intro _; rotate_right) | (apply TL.skip; rfl; rfl; rfl) | (apply TL.skip_none; rfl; rfl) | (apply TL.val; rfl; rfl; (apply V.nilCheck; rfl)) | (apply TL.x; rfl; rfl; (apply X.callS0 (f := 179) Tryz.call179; rfl; rfl; exact fun _ hs => CallsIn.at_ 0 hs rfl fun hs => c_next02 hs hg ha' hf'); intro p hp; obtain ⟨c2, a2, f2⟩ := p; obtain ⟨ha2, hf2, hc2, _⟩ := hp; simp only at ha2 hf2 hc2 ⊢) | (apply TL.x; rfl; rfl; (apply X.buildSlice1 (d := 24); rfl; rfl; rfl; rfl; rfl; rfl; rfl; rfl); intro b24 _) | (apply TL.val; rfl; rfl; (apply V.blkStr 0 [c2]; rfl; rfl; rfl; rfl; rfl; rfl; rfl; rfl; rfl; rfl; decide)) | (apply TL.val; rfl; rfl; (apply V.sadd (i := l) (j := [c2]); rfl; rfl; (show l.length + 1 ≤ _; omega))) | (apply TL.val; rfl; rfl; (first | exact vpure | exact vread)) | (apply TL.x; rfl; rfl; (first | exact xgrow | exact xput); intro _ _) | (apply TL.guard; rfl; rfl; rfl; (with_reducible (first | exact Is.ndec | exact Is.dec | exact Is.not | ((fail_if_success exact Is.litT); (fail_if_success exact Is.litF); exact Is.base))); intro _; rotate_left; intro _; rotate_right)))
      all_goals (try (exfalso; omega))
      all_goals (try contradiction)
      all_goals (refine N.round (l ++ [c2], a2, f2) ⟨by simp; omega, ha2, hf2, by simp only [List.length_append, List.length_cons, List.length_nil]; exact take_step hr hc2⟩ (by show c.toNat - (l ++ [c2]).length < c.toNat - l.length; simp; omega) (by simp only [List.length_append, List.length_cons, List.length_nil]; (repeat (first | exact True.intro | refine ⟨rfl, ?_⟩ | refine Sub.int rfl (by omega) ?_))) rfl (List.Sublist.cons _ (List.Sublist.refl _)))
  · have hend := hend (.inr (by omega))
    repeat (any_goals (first | refine T.seq ?_ | refine T.region ?_ | refine TL.nil ?_ | refine N.next ?_ | refine N.inBlock ?_ | refine N.exit_same ?_ | refine N.exit_then ?_ | refine N.ret_then ?_ | refine N.ret_block ?_ | (apply N.exit_other; rfl) | refine T.ret ?_ | refine T.skip ?_ | refine T.exit ?_ | refine T.block ?_ | (apply T.cond_true; rfl) | (apply T.cond_false; rfl) | (apply T.test; rfl; (with_reducible (first | exact Is.ndec | exact Is.dec | exact Is.not | ((fail_if_success exact Is.litT); (fail_if_success exact Is.litF); exact Is.base))); intro _; rotate_left; intro _; rotate_right) | (apply TL.skip; rfl; rfl; rfl) | (apply TL.skip_none; rfl; rfl) | (apply TL.val; rfl; rfl; (apply V.nilCheck; rfl)) | (apply TL.val; rfl; rfl; (first | exact vpure | exact vread)) | (apply TL.x; rfl; rfl; (first | exact xgrow | exact xput); intro _ _) | (apply TL.guard; rfl; rfl; rfl; (with_reducible (first | exact Is.ndec | exact Is.dec | exact Is.not | ((fail_if_success exact Is.litT); (fail_if_success exact Is.litF); exact Is.base))); intro _; rotate_left; intro _; rotate_right)))
    all_goals (try (exfalso; omega))
    all_goals (try contradiction)
    all_goals (refine N.ret1 rfl (by (exact rvx)) fun w hst => ⟨(l, a', f'), ⟨ha', hf', hend, by show l.length ≤ 255; omega⟩, rfl, hst⟩)
set_option maxHeartbeats 1000000 in
theorem c_word26 {s : Slc UInt8} {a : Nat} {f : Bool} (hs : St w0 H0 H (.blk b 110 [s.v, intV a, .bool f] :: L) w) (hg : s.Good H) (ha : a ≤ s.len) (hf : ok26 s a f) : CallsIn (FW none) 0 Tryz.prog 62 #[.pointer (some ⟨b, 0, none⟩)] w (RdA 110 w0 H0 H b s L (ok26 s) textCod.rd (fun x => x.length ≤ 255) (leftA s a f) (fun x => strV x)) := by
  refine T.enterIn (vs := [.pointer (some ⟨b, 0, none⟩)]) Tryz.func62 rfl rfl rfl hs ?_
  repeat (any_goals (first | refine T.seq ?_ | refine T.region ?_ | refine TL.nil ?_ | refine N.next ?_ | refine N.inBlock ?_ | refine N.exit_same ?_ | refine N.exit_then ?_ | refine N.ret_then ?_ | refine N.ret_block ?_ | (apply N.exit_other; rfl) | refine T.ret ?_ | refine T.skip ?_ | refine T.exit ?_ | refine T.block ?_ | (apply T.cond_true; rfl) | (apply T.cond_false; rfl) | (apply T.test; rfl; (with_reducible (first | exact Is.ndec | exact Is.dec | exact Is.not | ((fail_if_success exact Is.litT); (fail_if_success exact Is.litF); exact Is.base))); intro _; rotate_left; intro _; rotate_right) | (apply TL.skip; rfl; rfl; rfl) | (apply TL.skip_none; rfl; rfl) | (apply TL.x; rfl; rfl; (apply X.callS0 (d := 7) (f := 63) Tryz.call63; rfl; rfl; exact fun _ hs => c_next26 hs hg ha hf); intro p hp; obtain ⟨c, a1, f1⟩ := p; obtain ⟨ha1, hf1, hc, _⟩ := hp; simp only at ha1 hf1 hc ⊢; have hcl := c.toNat_lt) | (apply TL.val; rfl; rfl; (apply V.convW (r := .i64) (j := (c.toNat : Int)); rfl; rfl; rfl; rfl; exact IntWalk.i64_in _ (by omega))) | (apply TL.val; rfl; rfl; (first | exact vpure | exact vread)) | (apply TL.x; rfl; rfl; (first | exact xgrow | exact xput); intro _ _) | (apply TL.guard; rfl; rfl; rfl; (with_reducible (first | exact Is.ndec | exact Is.dec | exact Is.not | ((fail_if_success exact Is.litT); (fail_if_success exact Is.litF); exact Is.base))); intro _; rotate_left; intro _; rotate_right)))
  refine T.nilRow 5 1 ?_
  refine T.loop (G := Bytes × Nat × Bool × Value) (fun g => [(0, .pointer (some ⟨b, 0, none⟩)), (3, intV c.toNat), (4, g.2.2.2), (5, intV g.1.length)]) (fun _ => H) (fun g => .row g.2.2.2 5 1 g.1.length (encs g.1) :: .blk b 110 [s.v, intV g.2.1, .bool g.2.2.1] :: L) (fun g => g.1.length ≤ c.toNat ∧ g.2.1 ≤ s.len ∧ ok26 s g.2.1 g.2.2.1 ∧ (leftA s a1 f1).bind (takeR g.1.length) = (leftA s g.2.1 g.2.2.1).map fun r => (g.1, r)) (fun g => c.toNat - g.1.length) ([], a1, f1, .slice none 0 0) ⟨Nat.zero_le _, ha1, hf1, by cases f1 <;> simp [leftA, takeR]⟩ (by (repeat (first | exact True.intro | refine ⟨rfl, ?_⟩ | refine Sub.int rfl (by omega) ?_))) rfl (by exact List.Sublist.refl _) ?_
  rintro ⟨l, a', f', v⟩ ⟨hl, ha', hf', hr⟩
  simp only at hl ha' hf' hr ⊢
  have hend : (f' = true ∨ l.length = c.toNat) → (leftA s a f).bind textCod.rd = (leftA s a' f').map fun r => (l, r) := fun h => by
    rcases h with rfl | h
    · exact byte_text hc (takeA_mono hr hl l)
    · rw [h] at hr; exact byte_text hc hr
  have hret : ∀ (h : f' = true ∨ l.length = c.toNat), l.length ≤ 255 := fun _ => by omega
  by_cases hlt : l.length < c.toNat
  · cases f' with
    | true =>
      have hend := hend (.inl rfl)
      repeat (any_goals (first | refine T.seq ?_ | refine T.region ?_ | refine TL.nil ?_ | refine N.next ?_ | refine N.inBlock ?_ | refine N.exit_same ?_ | refine N.exit_then ?_ | refine N.ret_then ?_ | refine N.ret_block ?_ | (apply N.exit_other; rfl) | refine T.ret ?_ | refine T.skip ?_ | refine T.exit ?_ | refine T.block ?_ | (apply T.cond_true; rfl) | (apply T.cond_false; rfl) | (apply T.test; rfl; (with_reducible (first | exact Is.ndec | exact Is.dec | exact Is.not | ((fail_if_success exact Is.litT); (fail_if_success exact Is.litF); exact Is.base))); intro _; rotate_left; intro _; rotate_right) | (apply TL.skip; rfl; rfl; rfl) | (apply TL.skip_none; rfl; rfl) | (apply TL.val; rfl; rfl; (apply V.nilCheck; rfl)) | (apply TL.val; rfl; rfl; (apply V.rowStr 0 l; rfl; rfl; rfl; rfl; rfl; rfl; rfl; rfl; rfl)) | (apply TL.val; rfl; rfl; (first | exact vpure | exact vread)) | (apply TL.x; rfl; rfl; (first | exact xgrow | exact xput); intro _ _) | (apply TL.guard; rfl; rfl; rfl; (with_reducible (first | exact Is.ndec | exact Is.dec | exact Is.not | ((fail_if_success exact Is.litT); (fail_if_success exact Is.litF); exact Is.base))); intro _; rotate_left; intro _; rotate_right)))
      all_goals (try (exfalso; omega))
      all_goals (try contradiction)
      all_goals (refine N.ret1 rfl (by (exact rvx)) fun w hst => ⟨(l, a', true), ⟨ha', hf', hend, by show l.length ≤ 255; omega⟩, rfl, hst.sub (List.sublist_cons_self _ _)⟩)
    | false =>
      repeat (any_goals (first | refine T.seq ?_ | refine T.region ?_ | refine TL.nil ?_ | refine N.next ?_ | refine N.inBlock ?_ | refine N.exit_same ?_ | refine N.exit_then ?_ | refine N.ret_then ?_ | refine N.ret_block ?_ | (apply N.exit_other; rfl) | refine T.ret ?_ | refine T.skip ?_ | refine T.exit ?_ | refine T.block ?_ | (apply T.cond_true; rfl) | (apply T.cond_false; rfl) | (apply T.test; rfl; (with_reducible (first | exact Is.ndec | exact Is.dec | exact Is.not | ((fail_if_success exact Is.litT); (fail_if_success exact Is.litF); exact Is.base))); intro _; rotate_left; intro _; rotate_right) | (apply TL.skip; rfl; rfl; rfl) | (apply TL.skip_none; rfl; rfl) | (apply TL.val; rfl; rfl; (apply V.nilCheck; rfl)) | (apply TL.x; rfl; rfl; (apply X.callS0 (f := 63) Tryz.call63; rfl; rfl; exact fun _ hs => CallsIn.at_ 1 hs rfl fun hs => c_next26 hs hg ha' hf'); intro p hp; obtain ⟨c2, a2, f2⟩ := p; obtain ⟨ha2, hf2, hc2, _⟩ := hp; simp only at ha2 hf2 hc2 ⊢) | (apply TL.x; rfl; rfl; (apply X.buildSlice1 (d := 24); rfl; rfl; rfl; rfl; rfl; rfl; rfl; rfl); intro b24 _) | (apply TL.x; rfl; rfl; (apply X.appendBy 1; rfl; rfl; rfl; rfl; rfl; rfl; rfl; rfl; rfl; rfl; exact List.Mem.head _; omega); intro v5 _) | (apply TL.val; rfl; rfl; (first | exact vpure | exact vread)) | (apply TL.x; rfl; rfl; (first | exact xgrow | exact xput); intro _ _) | (apply TL.guard; rfl; rfl; rfl; (with_reducible (first | exact Is.ndec | exact Is.dec | exact Is.not | ((fail_if_success exact Is.litT); (fail_if_success exact Is.litF); exact Is.base))); intro _; rotate_left; intro _; rotate_right)))
      all_goals (try (exfalso; omega))
      all_goals (try contradiction)
      all_goals (refine N.round (l ++ [c2], a2, f2, v5) ⟨by simp; omega, ha2, hf2, by simp only [List.length_append, List.length_cons, List.length_nil]; exact take_step hr hc2⟩ (by show c.toNat - (l ++ [c2]).length < c.toNat - l.length; simp; omega) (by simp only [List.length_append, List.length_cons, List.length_nil]; (repeat (first | exact True.intro | refine ⟨rfl, ?_⟩ | refine Sub.int rfl (by omega) ?_))) rfl (List.Sublist.cons _ (List.Sublist.refl _)))
  · have hend := hend (.inr (by omega))
    repeat (any_goals (first | refine T.seq ?_ | refine T.region ?_ | refine TL.nil ?_ | refine N.next ?_ | refine N.inBlock ?_ | refine N.exit_same ?_ | refine N.exit_then ?_ | refine N.ret_then ?_ | refine N.ret_block ?_ | (apply N.exit_other; rfl) | refine T.ret ?_ | refine T.skip ?_ | refine T.exit ?_ | refine T.block ?_ | (apply T.cond_true; rfl) | (apply T.cond_false; rfl) | (apply T.test; rfl; (with_reducible (first | exact Is.ndec | exact Is.dec | exact Is.not | ((fail_if_success exact Is.litT); (fail_if_success exact Is.litF); exact Is.base))); intro _; rotate_left; intro _; rotate_right) | (apply TL.skip; rfl; rfl; rfl) | (apply TL.skip_none; rfl; rfl) | (apply TL.val; rfl; rfl; (apply V.nilCheck; rfl)) | (apply TL.val; rfl; rfl; (apply V.rowStr 0 l; rfl; rfl; rfl; rfl; rfl; rfl; rfl; rfl; rfl)) | (apply TL.val; rfl; rfl; (first | exact vpure | exact vread)) | (apply TL.x; rfl; rfl; (first | exact xgrow | exact xput); intro _ _) | (apply TL.guard; rfl; rfl; rfl; (with_reducible (first | exact Is.ndec | exact Is.dec | exact Is.not | ((fail_if_success exact Is.litT); (fail_if_success exact Is.litF); exact Is.base))); intro _; rotate_left; intro _; rotate_right)))
    all_goals (try (exfalso; omega))
    all_goals (try contradiction)
    all_goals (refine N.ret1 rfl (by (exact rvx)) fun w hst => ⟨(l, a', f'), ⟨ha', hf', hend, by show l.length ≤ 255; omega⟩, rfl, hst.sub (List.sublist_cons_self _ _)⟩)
end
set_option maxHeartbeats 8000000 in
theorem c_Read02 (bs : Slc UInt8) (H : Hp) (w : World) (hs : Sat H w) (hg : bs.Good H) : Calls Tryz.prog 125 #[bs.v] w (RetF w H (fun g : Hp × RSet × Int => ReadSet g.1 bs.els g.2.1 g.2.2) (fun g => .tuple #[.agg (enc g.2.1).toArray, intV g.2.2]) (fun g => g.1)) := by
  have hlim := hg.lim
  have hgl := hg.len
  refine T.enter (vs := [bs.v]) (H := H) Tryz.func125 rfl rfl rfl hs ?_
  repeat (any_goals (first | (apply T.seqU 13; rfl) | refine T.region ?_ | refine TL.nil ?_ | refine N.next ?_ | refine N.inBlock ?_ | refine N.exit_same ?_ | refine N.exit_then ?_ | refine N.ret_then ?_ | refine N.ret_block ?_ | (apply N.exit_other; rfl) | refine T.ret ?_ | refine T.skip ?_ | refine T.exit ?_ | refine T.block ?_ | (apply T.cond_true; rfl) | (apply T.cond_false; rfl) | (apply T.test; rfl; (with_reducible (first | exact Is.ndec | exact Is.dec | exact Is.not | ((fail_if_success exact Is.litT); (fail_if_success exact Is.litF); exact Is.base))); intro _; rotate_left; intro _; rotate_right) | (apply TL.skip; rfl; rfl; rfl) | (apply TL.skip_none; rfl; rfl) | (apply TL.x; rfl; rfl; (apply X.alloc (d := 2); rfl; rfl; rfl); intro b2 _) | (apply TL.x; rfl; rfl; (apply X.box (d := 11); rfl; rfl; rfl); intro b4 _) | (apply TL.x; rfl; rfl; (apply X.alloc (d := 5); rfl; rfl; rfl); intro b7 _) | (apply TL.val; rfl; rfl; (apply V.build; rfl; rfl; rfl; rfl; rfl; rfl)) | (apply TL.x; rfl; rfl; (apply X.callS0 (d := 13) (f := 177) Tryz.call177; rfl; rfl; exact fun _ hs => CallsIn.at_ 0 hs rfl fun hs => c_word02 (s := bs) (a := 0) (f := false) hs hg (Nat.zero_le _) (fun h => by cases h)); intro p1 hp1) | (apply TL.x; rfl; rfl; (apply X.storeTo 0 [strV p1.1, intV 0, intV 0, .slice none 0 0]; rfl; rfl; rfl; rfl; rfl; rfl; rfl; rfl; rfl; rfl); intro _ _) | (apply TL.x; rfl; rfl; (apply X.callS0 (d := 16) (f := 178) Tryz.call178; rfl; rfl; exact fun _ hs => CallsIn.at_ 1 hs rfl fun hs => c_value02 hs hg hp1.1 hp1.2.1); intro p2 hp2) | (apply TL.x; rfl; rfl; (apply X.storeTo 0 [strV p1.1, intV p2.1, intV 0, .slice none 0 0]; rfl; rfl; rfl; rfl; rfl; rfl; rfl; rfl; rfl; rfl); intro _ _) | (apply TL.x; rfl; rfl; (apply X.callS0 (d := 19) (f := 178) Tryz.call178; rfl; rfl; exact fun _ hs => CallsIn.at_ 1 hs rfl fun hs => c_value02 hs hg hp2.1 hp2.2.1); intro p3 hp3) | (apply TL.x; rfl; rfl; (apply X.storeTo 0 [strV p1.1, intV p2.1, intV p3.1, .slice none 0 0]; rfl; rfl; rfl; rfl; rfl; rfl; rfl; rfl; rfl; rfl); intro _ _) | (apply TL.x; rfl; rfl; (apply X.callS0 (d := 22) (f := 179) Tryz.call179; rfl; rfl; exact fun _ hs => CallsIn.at_ 1 hs rfl fun hs => c_next02 hs hg hp3.1 hp3.2.1); intro p4 hp4; have hcl := p4.1.toNat_lt) | (apply TL.val; rfl; rfl; (apply V.convW (r := .i64) (j := (p4.1.toNat : Int)); rfl; rfl; rfl; rfl; exact IntWalk.i64_in _ (by omega))) | (apply TL.val; rfl; rfl; (first | exact vpure | exact vread)) | (apply TL.x; rfl; rfl; (first | exact xgrow | exact xput); intro _ _) | (apply TL.guard; rfl; rfl; rfl; (with_reducible (first | exact Is.ndec | exact Is.dec | exact Is.not | ((fail_if_success exact Is.litT); (fail_if_success exact Is.litF); exact Is.base))); intro _; rotate_left; intro _; rotate_right)))
  all_goals (try (exfalso; omega))
  obtain ⟨nm, a1, f1⟩ := p1
  obtain ⟨ty, a2, f2⟩ := p2
  obtain ⟨li, a3, f3⟩ := p3
  obtain ⟨c, a4, f4⟩ := p4
  obtain ⟨hp1a, hp1o, e1, hp1l⟩ := hp1
  obtain ⟨hp2a, hp2o, e2, hp2l⟩ := hp2
  obtain ⟨hp3a, hp3o, e3, hp3l⟩ := hp3
  obtain ⟨hp4a, hp4o, e4', hp4l⟩ := hp4
  simp only at hp1a hp1o e1 hp1l hp2a hp2o e2 hp2l hp3a hp3o e3 hp3l hp4a hp4o e4' hcl ⊢
  have e4 := byte_small e4'
  have hfin : ∀ {ds : List Datum} {a : Nat} {f : Bool}, (leftA bs a4 f4).bind (datumCod.rdN c.toNat) = (leftA bs a f).map (fun r => (ds, r)) → setCod.rd bs.els = (leftA bs a f).map fun r => (⟨nm, ty, li, ds⟩, r) := fun h => set_rd e1 e2 e3 e4 h
  refine T.nilRow 86 3 ?_
  refine T.cut (G := List Datum × Value × Nat × Bool) (fun _ => [(0, bs.v), (2, .pointer (some ⟨b2, 0, none⟩)), (4, .pointer (some ⟨b4, 0, none⟩)), (5, .pointer (some ⟨b7, 0, none⟩))]) (fun _ => H) (fun g => [.row g.2.1 86 3 g.1.length (encs g.1), .blk b7 62 [strV nm, intV ty, intV li, g.2.1], .blk b4 213 [bs.v, intV g.2.2.1, .bool g.2.2.2], .blk b2 62 [strV [], intV 0, intV 0, .slice none 0 0]])
    (fun g => g.2.2.1 ≤ bs.len ∧ (∀ d ∈ g.1, Enc.good H d) ∧ g.1.length ≤ 255 ∧ setCod.rd bs.els = (leftA bs g.2.2.1 g.2.2.2).map fun r => (⟨nm, ty, li, g.1⟩, r)) ?_ ?_
  · repeat (any_goals (first | refine T.seq ?_ | refine T.region ?_ | refine TL.nil ?_ | refine N.next ?_ | refine N.inBlock ?_ | refine N.exit_same ?_ | refine N.exit_then ?_ | refine N.ret_then ?_ | refine N.ret_block ?_ | (apply N.exit_other; rfl) | refine T.ret ?_ | refine T.skip ?_ | refine T.exit ?_ | refine T.block ?_ | (apply T.cond_true; rfl) | (apply T.cond_false; rfl) | (apply T.test; rfl; (with_reducible (first | exact Is.ndec | exact Is.dec | exact Is.not | ((fail_if_success exact Is.litT); (fail_if_success exact Is.litF); exact Is.base))); intro _; rotate_left; intro _; rotate_right) | (apply TL.skip; rfl; rfl; rfl) | (apply TL.skip_none; rfl; rfl) | (apply TL.val; rfl; rfl; (first | exact vpure | exact vread)) | (apply TL.x; rfl; rfl; (first | exact xgrow | exact xput); intro _ _) | (apply TL.guard; rfl; rfl; rfl; (with_reducible (first | exact Is.ndec | exact Is.dec | exact Is.not | ((fail_if_success exact Is.litT); (fail_if_success exact Is.litF); exact Is.base))); intro _; rotate_left; intro _; rotate_right)))
    refine T.loop (G := List Datum × Value × Nat × Bool) (fun g => [(0, bs.v), (2, .pointer (some ⟨b2, 0, none⟩)), (4, .pointer (some ⟨b4, 0, none⟩)), (5, .pointer (some ⟨b7, 0, none⟩)), (6, intV c.toNat), (7, intV g.1.length)]) (fun _ => H) (fun g => [.row g.2.1 86 3 g.1.length (encs g.1), .blk b7 62 [strV nm, intV ty, intV li, g.2.1], .blk b4 213 [bs.v, intV g.2.2.1, .bool g.2.2.2], .blk b2 62 [strV [], intV 0, intV 0, .slice none 0 0]])
      (fun g => g.1.length ≤ c.toNat ∧ g.2.2.1 ≤ bs.len ∧ ok02 bs g.2.2.1 g.2.2.2 ∧ (∀ d ∈ g.1, Enc.good H d) ∧ (leftA bs a4 f4).bind (datumCod.rdN g.1.length) = (leftA bs g.2.2.1 g.2.2.2).map fun r => (g.1, r)) (fun g => c.toNat - g.1.length) ([], .slice none 0 0, a4, f4) ⟨Nat.zero_le _, hp4a, hp4o, by simp, by cases leftA bs a4 f4 <;> rfl⟩ (by (repeat (first | exact True.intro | refine ⟨rfl, ?_⟩ | refine Sub.int rfl (by omega) ?_))) rfl (List.Sublist.refl _) ?_
    rintro ⟨ds, dv, a, f⟩ ⟨hk, ha, ho, hd, hinv⟩
    simp only at hk ha ho hd hinv ⊢
    by_cases hlt : ds.length < c.toNat
    · cases f with
      | true =>
        repeat (any_goals (first | refine T.seq ?_ | refine T.region ?_ | refine TL.nil ?_ | refine N.next ?_ | refine N.inBlock ?_ | refine N.exit_same ?_ | refine N.exit_then ?_ | refine N.ret_then ?_ | refine N.ret_block ?_ | (apply N.exit_other; rfl) | refine T.ret ?_ | refine T.skip ?_ | refine T.exit ?_ | refine T.block ?_ | (apply T.cond_true; rfl) | (apply T.cond_false; rfl) | (apply T.test; rfl; (with_reducible (first | exact Is.ndec | exact Is.dec | exact Is.not | ((fail_if_success exact Is.litT); (fail_if_success exact Is.litF); exact Is.base))); intro _; rotate_left; intro _; rotate_right) | (apply TL.skip; rfl; rfl; rfl) | (apply TL.skip_none; rfl; rfl) | (apply TL.val; rfl; rfl; (apply V.nilCheck; rfl)) | (apply TL.val; rfl; rfl; (first | exact vpure | exact vread)) | (apply TL.x; rfl; rfl; (first | exact xgrow | exact xput); intro _ _) | (apply TL.guard; rfl; rfl; rfl; (with_reducible (first | exact Is.ndec | exact Is.dec | exact Is.not | ((fail_if_success exact Is.litT); (fail_if_success exact Is.litF); exact Is.base))); intro _; rotate_left; intro _; rotate_right)))
        all_goals (try (exfalso; omega))
        all_goals (try contradiction)
        all_goals (refine N.cut (ds, dv, a, true) ⟨ha, hd, by show ds.length ≤ 255; omega, hfin ?_⟩ (by (repeat (first | exact True.intro | refine ⟨rfl, ?_⟩ | refine Sub.int rfl (by omega) ?_))) rfl (List.Sublist.refl _))
        all_goals exact rdN_stop hinv (by omega)
      | false =>
        repeat (any_goals (first | refine T.seq ?_ | refine T.region ?_ | refine TL.nil ?_ | refine N.next ?_ | refine N.inBlock ?_ | refine N.exit_same ?_ | refine N.exit_then ?_ | refine N.ret_then ?_ | refine N.ret_block ?_ | (apply N.exit_other; rfl) | refine T.ret ?_ | refine T.skip ?_ | refine T.exit ?_ | refine T.block ?_ | (apply T.cond_true; rfl) | (apply T.cond_false; rfl) | (apply T.test; rfl; (with_reducible (first | exact Is.ndec | exact Is.dec | exact Is.not | ((fail_if_success exact Is.litT); (fail_if_success exact Is.litF); exact Is.base))); intro _; rotate_left; intro _; rotate_right) | (apply TL.skip; rfl; rfl; rfl) | (apply TL.skip_none; rfl; rfl) | (apply TL.x; rfl; rfl; (apply X.alloc (d := 8); rfl; rfl; rfl); intro b8 _) | (apply TL.val; rfl; rfl; (apply V.nilCheck; rfl)) | (apply TL.val; rfl; rfl; (apply V.build; rfl; rfl; rfl; rfl; rfl; rfl)) | (apply TL.x; rfl; rfl; (apply X.callS0 (d := 37) (f := 177) Tryz.call177; rfl; rfl; exact fun _ hs => CallsIn.at_ 2 hs rfl fun hs => c_word02 hs hg ha ho); intro q1 hq1) | (apply TL.x; rfl; rfl; (apply X.storeTo 0 [strV q1.1, intV 0, intV 0]; rfl; rfl; rfl; rfl; rfl; rfl; rfl; rfl; rfl; rfl); intro _ _) | (apply TL.x; rfl; rfl; (apply X.callS0 (d := 40) (f := 178) Tryz.call178; rfl; rfl; exact fun _ hs => CallsIn.at_ 3 hs rfl fun hs => c_value02 hs hg hq1.1 hq1.2.1); intro q2 hq2) | (apply TL.x; rfl; rfl; (apply X.storeTo 0 [strV q1.1, intV q2.1, intV 0]; rfl; rfl; rfl; rfl; rfl; rfl; rfl; rfl; rfl; rfl); intro _ _) | (apply TL.x; rfl; rfl; (apply X.callS0 (d := 43) (f := 178) Tryz.call178; rfl; rfl; exact fun _ hs => CallsIn.at_ 3 hs rfl fun hs => c_value02 hs hg hq2.1 hq2.2.1); intro q3 hq3) | (apply TL.x; rfl; rfl; (apply X.storeTo 0 [strV q1.1, intV q2.1, intV q3.1]; rfl; rfl; rfl; rfl; rfl; rfl; rfl; rfl; rfl; rfl); intro _ _) | (apply TL.x; rfl; rfl; (apply X.append1 2; rfl; rfl; rfl; rfl; rfl; rfl; rfl; rfl; rfl; exact List.Mem.head _; rfl; rfl; rfl; (refine Nat.le_trans (Nat.mul_le_mul_right _ (show _ ≤ 1000 by omega)) ?_; decide); omega); intro pa _) | (apply TL.x; rfl; rfl; (apply X.storeTo 3 [strV nm, intV ty, intV li, .slice (some ⟨pa.1, 0, none⟩) (ds.length + 1) pa.2]; rfl; rfl; rfl; rfl; rfl; rfl; rfl; rfl; rfl; rfl); intro _ _) | (apply TL.val; rfl; rfl; (first | exact vpure | exact vread)) | (apply TL.x; rfl; rfl; (first | exact xgrow | exact xput); intro _ _) | (apply TL.guard; rfl; rfl; rfl; (with_reducible (first | exact Is.ndec | exact Is.dec | exact Is.not | ((fail_if_success exact Is.litT); (fail_if_success exact Is.litF); exact Is.base))); intro _; rotate_left; intro _; rotate_right)))
        all_goals (try (exfalso; omega))
        all_goals (try contradiction)
        all_goals
          have b4 := datum_rd (b := bs.els.drop a) hq1.2.2.1 hq2.2.2.1 hq3.2.2.1
          have b5 := rdN_step (st := leftA bs a4 f4) (k := ds.length) (l := ds) (r := bs.els.drop a) hinv b4
          have hgood : Enc.good H (⟨q1.1, q2.1, q3.1⟩ : Datum) := ⟨Nat.le_trans hq1.2.2.2 (by decide), hq2.2.2.2, hq3.2.2.2⟩
          refine N.round (ds ++ [⟨q1.1, q2.1, q3.1⟩], .slice (some ⟨pa.1, 0, none⟩) (ds.length + 1) pa.2, q3.2.1, q3.2.2) ⟨by simp; omega, hq3.1, hq3.2.1, ?_, by simp only [List.length_append, List.length_cons, List.length_nil]; exact b5⟩ (by show c.toNat - (ds ++ [_]).length < c.toNat - ds.length; simp; omega) (by simp only [List.length_append, List.length_cons, List.length_nil]; (repeat (first | exact True.intro | refine ⟨rfl, ?_⟩ | refine Sub.int rfl (by omega) ?_))) rfl ?_
        · intro d hdm
          rcases List.mem_append.1 hdm with h | h
          · exact hd d h
          · rw [List.mem_singleton.1 h]; exact hgood
        · simp only [List.length_append, List.length_cons, List.length_nil, Nat.zero_add, encs_snoc]
          exact List.Sublist.cons _ (List.Sublist.cons _ (List.Sublist.refl _))
    · have hk8 : ds.length = c.toNat := by omega
      repeat (any_goals (first | refine T.seq ?_ | refine T.region ?_ | refine TL.nil ?_ | refine N.next ?_ | refine N.inBlock ?_ | refine N.exit_same ?_ | refine N.exit_then ?_ | refine N.ret_then ?_ | refine N.ret_block ?_ | (apply N.exit_other; rfl) | refine T.ret ?_ | refine T.skip ?_ | refine T.exit ?_ | refine T.block ?_ | (apply T.cond_true; rfl) | (apply T.cond_false; rfl) | (apply T.test; rfl; (with_reducible (first | exact Is.ndec | exact Is.dec | exact Is.not | ((fail_if_success exact Is.litT); (fail_if_success exact Is.litF); exact Is.base))); intro _; rotate_left; intro _; rotate_right) | (apply TL.skip; rfl; rfl; rfl) | (apply TL.skip_none; rfl; rfl) | (apply TL.val; rfl; rfl; (apply V.nilCheck; rfl)) | (apply TL.val; rfl; rfl; (first | exact vpure | exact vread)) | (apply TL.x; rfl; rfl; (first | exact xgrow | exact xput); intro _ _) | (apply TL.guard; rfl; rfl; rfl; (with_reducible (first | exact Is.ndec | exact Is.dec | exact Is.not | ((fail_if_success exact Is.litT); (fail_if_success exact Is.litF); exact Is.base))); intro _; rotate_left; intro _; rotate_right)))
      all_goals (try (exfalso; omega))
      all_goals (try contradiction)
      all_goals (refine N.cut (ds, dv, a, f) ⟨ha, hd, by show ds.length ≤ 255; omega, hfin ?_⟩ (by (repeat (first | exact True.intro | refine ⟨rfl, ?_⟩ | refine Sub.int rfl (by omega) ?_))) rfl (List.Sublist.refl _))
      all_goals (rw [← hk8]; exact hinv)
  · rintro ⟨ds, dv, a, f⟩ ⟨ha, hd, hlen, hrd⟩
    simp only at ha hd hlen hrd ⊢
    apply T.frzRow 0 (els := ds); rfl; rfl; rfl; exact hd
    intro H1 sd e1 e2 e3 hle
    subst e1
    have hgx : Enc.good H1 (⟨nm, ty, li, sd⟩ : RSet) := ⟨Nat.le_trans hp1l (by decide), hp2l, hp3l, e3⟩
    have hxc : (⟨nm, ty, li, sd⟩ : RSet).c = ⟨nm, ty, li, ds⟩ := by rw [← e2]; rfl
    have hno : ¬ (f = false ∧ a = bs.len ∧ setOK ⟨nm, ty, li, ds⟩ = true) → ReadSet H1 bs.els rsetNil 10 := fun h => by
      refine ⟨⟨Nat.zero_le _, by decide, by decide, Slc.nil_good⟩, .inr ⟨?_, rfl, rfl⟩⟩
      unfold readSet
      rw [hrd]
      cases f with
      | true => rfl
      | false =>
        show (match some ((⟨nm, ty, li, ds⟩ : SetC), bs.els.drop a) with | some (s, []) => if setOK s then some s else none | _ => none) = none
        cases htc : bs.els.drop a with
        | nil =>
          show (if setOK _ = true then _ else none) = none
          rw [if_neg fun h2 => h ⟨rfl, by have := congrArg List.length htc; rw [List.length_drop, List.length_nil] at this; omega, h2⟩]
        | cons _ _ => rfl
    have hyes : f = false → a = bs.len → setOK ⟨nm, ty, li, ds⟩ = true → ReadSet H1 bs.els ⟨nm, ty, li, sd⟩ 0 := fun h1 h2 h3 => by
      refine ⟨hgx, .inl ⟨?_, rfl⟩⟩
      have h4 : bs.els.drop a = [] := List.drop_eq_nil_of_le (by omega)
      subst h1
      unfold readSet
      rw [hrd]
      show (match some ((⟨nm, ty, li, ds⟩ : SetC), bs.els.drop a) with | some (s, []) => if setOK s then some s else none | _ => none) = _
      rw [h4]
      show (if setOK _ = true then _ else none) = _
      rw [if_pos h3, hxc]
    repeat (any_goals (first | refine T.seq ?_ | refine T.region ?_ | refine TL.nil ?_ | refine N.next ?_ | refine N.inBlock ?_ | refine N.exit_same ?_ | refine N.exit_then ?_ | refine N.ret_then ?_ | refine N.ret_block ?_ | (apply N.exit_other; rfl) | refine T.ret ?_ | refine T.skip ?_ | refine T.exit ?_ | refine T.block ?_ | (apply T.cond_true; rfl) | (apply T.cond_false; rfl) | (apply T.test; rfl; (with_reducible (first | exact Is.ndec | exact Is.dec | exact Is.not | ((fail_if_success exact Is.litT); (fail_if_success exact Is.litF); exact Is.base))); intro _; rotate_left; intro _; rotate_right) | (apply TL.skip; rfl; rfl; rfl) | (apply TL.skip_none; rfl; rfl) | (apply TL.val; rfl; rfl; (apply V.nilCheck; rfl)) | (apply TL.callE (f := 45) [.agg (enc (⟨nm, ty, li, sd⟩ : RSet)).toArray] Tryz.call45; rfl; rfl; rfl; rfl; (exact fun _ hs => hxc ▸ c_Valid02 ⟨nm, ty, li, sd⟩ _ _ hs.sat hgx)) | (apply TL.val; rfl; rfl; (apply V.build; rfl; rfl; rfl; rfl; rfl; rfl)) | (apply TL.x; rfl; rfl; (apply X.storeTo 2 (enc rsetNil); rfl; rfl; rfl; rfl; rfl; rfl; rfl; rfl; rfl; rfl); intro _ _) | (apply TL.x; rfl; rfl; (apply X.storeTo 2 (enc (⟨nm, ty, li, sd⟩ : RSet)); rfl; rfl; rfl; rfl; rfl; rfl; rfl; rfl; rfl; rfl); intro _ _) | (apply TL.val; rfl; rfl; (first | exact vpure | exact vread)) | (apply TL.x; rfl; rfl; (first | exact xgrow | exact xput); intro _ _) | (apply TL.guard; rfl; rfl; rfl; (with_reducible (first | exact Is.ndec | exact Is.dec | exact Is.not | ((fail_if_success exact Is.litT); (fail_if_success exact Is.litF); exact Is.base))); intro _; rotate_left; intro _; rotate_right)))
    all_goals (try (exfalso; omega))
    all_goals (refine N.ret2 rfl (by (exact rvx)) (by (exact rvx)) fun w hst => ?_)
    · have h1 : f = true := by assumption
      exact ⟨(H1, rsetNil, 10), hno (fun h => by rw [h.1] at h1; cases h1), rfl, hst.fresh⟩
    · exact ⟨(H1, rsetNil, 10), hno (fun h => by omega), rfl, hst.fresh⟩
    · have h3 : setOK ⟨nm, ty, li, ds⟩ = false := by assumption
      exact ⟨(H1, rsetNil, 10), hno (fun h => by rw [h.2.2] at h3; cases h3), rfl, hst.fresh⟩
    · exact ⟨(H1, ⟨nm, ty, li, sd⟩, 0), hyes (by assumption) (by omega) (by assumption), rfl, hst.fresh⟩
end Go.Proofs.YtogcofeencgipaaGreatDoor
