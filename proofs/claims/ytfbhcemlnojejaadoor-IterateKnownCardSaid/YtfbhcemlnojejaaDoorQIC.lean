/- Walks: the names above a name, and the zones that are asked, one after the other. -/
import Derived.Test.YtfbhcemlnojejaaDoorQIA
import Derived.Test.YtfbhcemlnojejaaDoorQTL
namespace Go.Proofs.YtfbhcemlnojejaaDoor
set_option linter.unusedVariables false
set_option linter.unusedSimpArgs false
open Go Go.RowKit
open Enc (enc)
set_option maxRecDepth 20000

theorem c_above (s : Bytes) (H : Hp) (w : World) (hs : Sat H w) : Calls Tryd.prog 88 #[strV s] w (RetO w H (fun _ : Nat => True) (fun b => .func (.func 123) #[] #[.pointer (some ⟨b, 0, none⟩)]) (fun _ => H) (fun b => [.blk b 9 [strV s]])) := by
  refine T.enter (vs := [strV s]) (H := H) Tryd.func88 rfl rfl rfl hs ?_
  repeat (any_goals (first | refine T.seq ?_ | refine T.region ?_ | refine TL.nil ?_ | refine N.next ?_ | refine N.inBlock ?_ | refine N.exit_same ?_ | refine N.exit_then ?_ | refine N.ret_then ?_ | refine N.ret_block ?_ | (apply N.exit_other; rfl) | refine T.ret ?_ | refine T.skip ?_ | refine T.exit ?_ | refine T.block ?_ | (apply T.cond_true; rfl) | (apply T.cond_false; rfl) | (apply T.test; rfl; (with_reducible (first | exact Is.ndec | exact Is.dec | exact Is.not | ((fail_if_success exact Is.litT); (fail_if_success exact Is.litF); exact Is.base))); intro _; rotate_left; intro _; rotate_right) | (apply TL.skip; rfl; rfl; rfl) | (apply TL.skip_none; rfl; rfl) | (apply TL.val; rfl; rfl; ((apply V.makeFunc (vs := []) (us := [_]) <;> rfl))) | (apply TL.val; rfl; rfl; (first | exact vpure | exact vread)) | (apply TL.x; rfl; rfl; (first | exact xgrow | exact xput); intro _ _) | (apply TL.guard; rfl; rfl; rfl; (with_reducible (first | exact Is.ndec | exact Is.dec | exact Is.not | ((fail_if_success exact Is.litT); (fail_if_success exact Is.litF); exact Is.base))); intro _; rotate_left; intro _; rotate_right)))
  rename_i b _
  exact N.ret1 rfl (by (exact rvx)) fun w hst => ⟨b, trivial, rfl, hst⟩
theorem above_len (m : List Bytes) : (aboveL m).length = m.length + 1 := by
  induction m with
  | nil => rfl
  | cons x m ih => show (aboveL m).length + 1 = _; rw [ih]; rfl
theorem above_at : ∀ (m : List Bytes) (k : Nat) (h : k < (aboveL m).length), (aboveL m)[k] = glueC (m.drop k)
  | [], 0, _ => rfl
  | [], k + 1, h => by simp [aboveL] at h
  | x :: m, 0, _ => rfl
  | x :: m, k + 1, h => by
    have := above_at m k (by simpa [aboveL] using h)
    simpa [aboveL] using this
theorem labs_drop {m : List Bytes} (h : labsOK m = true) : ∀ k, labsOK (m.drop k) = true
  | 0 => h
  | k + 1 => by
    have := labs_drop h k
    rw [← List.drop_drop]
    cases hd : m.drop k with
    | nil => rfl
    | cons x r => rw [hd] at this; exact labs_tail this
theorem aboveC_at {s : Bytes} (h : nameOK s = true) {k : Nat} (hk : k < (aboveC s).length) : nameOK (aboveC s)[k] = true := (aboveC_mem h (List.getElem_mem hk)).1
set_option maxHeartbeats 2000000 in
/-- 'above' gives a name, the one above it, and so on, to yield, until it is told to stop. -/
theorem c_above1 (s : Bytes) (hn : nameOK s = true) (ba : Nat) {G : Type} (Φ : Nat → G → Prop) (Φs : G → Prop) (HH : G → Hp) (LL : Bytes → G → List Loc) (i : Nat) {w0 : World} {H0 : Hp} {rl : Nat} (hi : ∀ x g, (LL x g)[i]? = some (.blk ba 9 [strV x])) (hset : ∀ x y g, (LL x g).set i (.blk ba 9 [strV y]) = LL y g)
    (hy : ∀ k g, Φ k g → ∀ (h : k < (aboveC s).length) x w, St w0 H0 (HH g) (LL x g) w → YieldAt (FW none) 0 Tryd.prog rl #[strV (aboveC s)[k]] w (fun e w' => ∃ b g', e = .returned (.bool b) ∧ (if b = true then Φ (k + 1) g' else Φs g') ∧ St w0 H0 (HH g') (LL x g') w'))
    (g0 : G) (h0 : Φ 0 g0) {w : World} (hs : St w0 H0 (HH g0) (LL s g0) w) :
    CallsIn (FW none) 0 Tryd.prog 123 #[.func (.yield rl) #[] #[], .pointer (some ⟨ba, 0, none⟩)] w (fun e w' => ∃ v x g, e = .returned v ∧ (Φ (aboveC s).length g ∨ Φs g) ∧ St w0 H0 (HH g) (LL x g) w') := by
  have hm : ∀ x g, Loc.blk ba 9 [strV x] ∈ LL x g := fun x g => List.mem_of_getElem? (hi x g)
  obtain ⟨hlabs, h8⟩ := parts_labs hn
  have hlen : (aboveC s).length = (parts s).length + 1 := above_len _
  refine T.enterIn (vs := [.func (.yield rl) #[] #[], .pointer (some ⟨ba, 0, none⟩)]) Tryd.func123 rfl rfl rfl hs ?_
  repeat (any_goals (first | refine T.seq ?_ | refine T.region ?_ | refine TL.nil ?_ | refine N.next ?_ | refine N.inBlock ?_ | refine N.exit_same ?_ | refine N.exit_then ?_ | refine N.ret_then ?_ | refine N.ret_block ?_ | (apply N.exit_other; rfl) | refine T.ret ?_ | refine T.skip ?_ | refine T.exit ?_ | refine T.block ?_ | (apply T.cond_true; rfl) | (apply T.cond_false; rfl) | (apply T.test; rfl; (with_reducible (first | exact Is.ndec | exact Is.dec | exact Is.not | ((fail_if_success exact Is.litT); (fail_if_success exact Is.litF); exact Is.base))); intro _; rotate_left; intro _; rotate_right) | (apply TL.skip; rfl; rfl; rfl) | (apply TL.skip_none; rfl; rfl) | (apply TL.val; rfl; rfl; (first | exact vpure | exact vread)) | (apply TL.x; rfl; rfl; (first | exact xgrow | exact xput); intro _ _) | (apply TL.guard; rfl; rfl; rfl; (with_reducible (first | exact Is.ndec | exact Is.dec | exact Is.not | ((fail_if_success exact Is.litT); (fail_if_success exact Is.litF); exact Is.base))); intro _; rotate_left; intro _; rotate_right)))
  refine T.loop (G := Nat × G) (fun p => [(0, .func (.yield rl) #[] #[]), (1, .pointer (some ⟨ba, 0, none⟩))]) (fun p => HH p.2) (fun p => LL (glueC ((parts s).drop p.1)) p.2) (fun p => p.1 ≤ (parts s).length ∧ Φ p.1 p.2) (fun p => (parts s).length - p.1) (0, g0) ⟨Nat.zero_le _, h0⟩ (by (repeat (first | exact True.intro | refine ⟨rfl, ?_⟩ | refine Sub.int rfl (by omega) ?_))) rfl (by rw [List.drop_zero, glue_split]; exact List.Sublist.refl _) ?_
  rintro ⟨k, g⟩ ⟨hk, hΦ⟩
  simp only at hk hΦ ⊢
  have hkl : k < (aboveC s).length := by omega
  have hat : (aboveC s)[k] = glueC ((parts s).drop k) := above_at _ _ _
  have hY := fun x w hs => hy k g hΦ hkl x w hs
  rw [hat] at hY
  by_cases hlt : k < (parts s).length
  · obtain ⟨x, m, hxm⟩ : ∃ x m, (parts s).drop k = x :: m := by
      cases h : (parts s).drop k with
      | nil => rw [List.drop_eq_nil_iff] at h; omega
      | cons x m => exact ⟨x, m, rfl⟩
    have hm1 : (parts s).drop (k + 1) = m := by rw [← List.drop_drop, hxm]; rfl
    have hlx : labsOK (x :: m) = true := hxm ▸ labs_drop hlabs k
    have hnx : nameOK (glueC (x :: m)) = true := by have := aboveC_at hn hkl; rw [hat, hxm] at this; exact this
    have hrx : glueC (x :: m) ≠ [46] := fun e => by have := (glue_root hlx).1 e; cases this
    rw [hxm] at hY ⊢
    repeat (any_goals (first | refine T.seq ?_ | refine T.region ?_ | refine TL.nil ?_ | refine N.next ?_ | refine N.inBlock ?_ | refine N.exit_same ?_ | refine N.exit_then ?_ | refine N.ret_then ?_ | refine N.ret_block ?_ | (apply N.exit_other; rfl) | refine T.ret ?_ | refine T.skip ?_ | refine T.exit ?_ | refine T.block ?_ | (apply T.cond_true; rfl) | (apply T.cond_false; rfl) | (apply T.test; rfl; (with_reducible (first | exact Is.ndec | exact Is.dec | exact Is.not | ((fail_if_success exact Is.litT); (fail_if_success exact Is.litF); exact Is.base))); intro _; rotate_left; intro _; rotate_right) | (apply TL.skip; rfl; rfl; rfl) | (apply TL.skip_none; rfl; rfl) | (apply TL.val; rfl; rfl; (apply V.load_loc; rfl; rfl; rfl; exact hm _ _; rfl)) | (apply TL.yield; rfl; rfl; rfl; rfl; (exact fun w hs => hY _ w hs); intro b g' hb) | (apply TL.callE (f := 124) [strV (glueC (x :: m))] Tryd.call124; rfl; rfl; rfl; rfl; (exact fun _ hs => c_Parent hlx hnx hs.sat)) | (apply TL.x; rfl; rfl; (apply X.storeTo i [strV (glueC m)]; rfl; rfl; rfl; exact hi _ _; rfl; rfl; rfl; rfl; rfl; exact hset _ _ _); intro _ _) | (apply TL.val; rfl; rfl; (first | exact vpure | exact vread)) | (apply TL.x; rfl; rfl; (first | exact xgrow | exact xput); intro _ _) | (apply TL.guard; rfl; rfl; rfl; (with_reducible (first | exact Is.ndec | exact Is.dec | exact Is.not | ((fail_if_success exact Is.litT); (fail_if_success exact Is.litF); exact Is.base))); intro _; rotate_left; intro _; rotate_right)))
    all_goals (try contradiction)
    · rename_i hbf
      rw [hbf] at hb
      exact N.ret0 rfl fun w hs => ⟨_, _, g', rfl, .inr hb, hs⟩
    · rename_i hbt _ _
      rw [hbt] at hb
      refine N.round (k + 1, g') ⟨by show k + 1 ≤ _; omega, hb⟩ (by show (parts s).length - (k + 1) < (parts s).length - k; omega) (by (repeat (first | exact True.intro | refine ⟨rfl, ?_⟩ | refine Sub.int rfl (by omega) ?_))) rfl ?_
      show List.Sublist (LL (glueC ((parts s).drop (k + 1))) g') _
      rw [hm1]
      exact List.Sublist.refl _
  · have hnil : (parts s).drop k = [] := List.drop_eq_nil_iff.2 (by omega)
    rw [hnil] at hY ⊢
    repeat (any_goals (first | refine T.seq ?_ | refine T.region ?_ | refine TL.nil ?_ | refine N.next ?_ | refine N.inBlock ?_ | refine N.exit_same ?_ | refine N.exit_then ?_ | refine N.ret_then ?_ | refine N.ret_block ?_ | (apply N.exit_other; rfl) | refine T.ret ?_ | refine T.skip ?_ | refine T.exit ?_ | refine T.block ?_ | (apply T.cond_true; rfl) | (apply T.cond_false; rfl) | (apply T.test; rfl; (with_reducible (first | exact Is.ndec | exact Is.dec | exact Is.not | ((fail_if_success exact Is.litT); (fail_if_success exact Is.litF); exact Is.base))); intro _; rotate_left; intro _; rotate_right) | (apply TL.skip; rfl; rfl; rfl) | (apply TL.skip_none; rfl; rfl) | (apply TL.val; rfl; rfl; (apply V.load_loc; rfl; rfl; rfl; exact hm _ _; rfl)) | (apply TL.yield; rfl; rfl; rfl; rfl; (exact fun w hs => hY _ w hs); intro b g' hb) | (apply TL.val; rfl; rfl; (first | exact vpure | exact vread)) | (apply TL.x; rfl; rfl; (first | exact xgrow | exact xput); intro _ _) | (apply TL.guard; rfl; rfl; rfl; (with_reducible (first | exact Is.ndec | exact Is.dec | exact Is.not | ((fail_if_success exact Is.litT); (fail_if_success exact Is.litF); exact Is.base))); intro _; rotate_left; intro _; rotate_right)))
    all_goals (try contradiction)
    refine N.end0 rfl fun w hs => ⟨_, _, g', rfl, ?_, hs⟩
    cases b with
    | true => exact .inl (by rw [if_pos rfl] at hb; rw [hlen, show (parts s).length = k by omega]; exact hb)
    | false => exact .inr (by rw [if_neg (by simp)] at hb; exact hb)
section
variable {P : Program} {n : FK} {w0 : World} {H0 H : Hp} {Q : Exit → Act → World → Prop} {env : List (Nat × Value)} {L : List Loc}
/-- In at any state, of a function that holds a range over a function. -/
theorem T.enterInM {f : FuncId} {fn : Func} {c : Code} {vs : List Value} {w : World} {R : Ending → World → Prop} (hf : P.funcs[f]? = some fn) (hb : fn.body = some c) {m : Nat} (hn : fn.ntmps = m) (hl : Nat.ble vs.length m = true) (hs : St w0 H0 H L w)
    (h : T P ⟨m, [], none⟩ w0 H0 c (bodyPostM (FW none) 0 P fn R) (argEnv 0 vs) H L) : CallsIn (FW none) 0 P f vs.toArray w R := by
  refine callsIn_of_wp_marks hf hb trivial (h.out _ w ⟨rfl, ?_, fun t v hv => ?_⟩ hs)
  · have := Nat.le_of_ble_eq_true hl
    simp [hn]; omega
  · obtain ⟨_, h2⟩ := look_argEnv vs 0 t v hv
    rw [Nat.sub_zero] at h2
    have hlt : t < vs.length := (List.getElem?_eq_some_iff.1 h2).1
    rw [Array.getElem?_append_left (by simpa using hlt)]
    simpa using h2
end
section
variable {P : Program} {w0 : World} {H0 H : Hp} {env : List (Nat × Value)} {L : List Loc}
/-- The way out at the body's end, with the mark of a range over a function. -/
theorem N.markedEnd {m b i : Nat} {ro : Option Nat} {fn : Func} {R : Ending → World → Prop} (hi : L[i]? = some (.any b (.deferred (some []))))
    (h : N ⟨m, [], ro⟩ w0 H0 (bodyPost P fn R) .normal env H (L.set i (.any b (.deferred none)))) : N ⟨m, [{ target := .collected b, args := #[] }], ro⟩ w0 H0 (bodyPostM (FW none) 0 P fn R) .normal env H L :=
  ⟨fun a w hf hs => by
    have hd := (hs.ok _ (List.mem_of_getElem? hi)).2
    obtain ⟨_, v, hr, hR⟩ := h.out { a with defers := [] } _ ⟨rfl, hf.size, hf.vals⟩ (hs.putObj (.deferred none) hi)
    show LeavesInM _ _ _ _ _ _ a.defers _ _
    rw [hf.defers]
    exact ⟨by simp, .inl ⟨b, _, rfl, run_takeDeferred hd, ⟨v, hr, hR⟩⟩⟩⟩
end
theorem YieldAt.weaken {F : Fence} {m : Nat} {P : Program} {l : Nat} {args : Array Value} {W : World} {R R' : Ending → World → Prop} (h : YieldAt F m P l args W R) (hr : ∀ e w, R e w → R' e w) : YieldAt F m P l args W R' := by
  obtain ⟨fn, tmps, assign, body, h1, h2⟩ := h
  exact ⟨fn, tmps, assign, body, h1, h2.mono hr⟩
theorem c_izones (r : Res) (q : Question) (left : Slc Bytes) (H : Hp) (w : World) (hs : Sat H w) : Calls Tryd.prog 115 #[.agg (enc r).toArray, .agg (enc q).toArray, left.v] w (RetF w H (fun g : Hp × Nat × Nat × Nat => g.1.cells g.2.1 0 (enc q) ∧ g.1.cells g.2.2.1 0 (enc r) ∧ g.1.cells g.2.2.2 0 [left.v]) (fun g => .func (.func 136) #[] #[.pointer (some ⟨g.2.1, 0, none⟩), .pointer (some ⟨g.2.2.1, 0, none⟩), .pointer (some ⟨g.2.2.2, 0, none⟩)]) (fun g => g.1)) := by
  refine T.enter (vs := [.agg (enc r).toArray, .agg (enc q).toArray, left.v]) (H := H) Tryd.func115 rfl rfl rfl hs ?_
  repeat (any_goals (first | refine T.seq ?_ | refine T.region ?_ | refine TL.nil ?_ | refine N.next ?_ | refine N.inBlock ?_ | refine N.exit_same ?_ | refine N.exit_then ?_ | refine N.ret_then ?_ | refine N.ret_block ?_ | (apply N.exit_other; rfl) | refine T.ret ?_ | refine T.skip ?_ | refine T.exit ?_ | refine T.block ?_ | (apply T.cond_true; rfl) | (apply T.cond_false; rfl) | (apply T.test; rfl; (with_reducible (first | exact Is.ndec | exact Is.dec | exact Is.not | ((fail_if_success exact Is.litT); (fail_if_success exact Is.litF); exact Is.base))); intro _; rotate_left; intro _; rotate_right) | (apply TL.skip; rfl; rfl; rfl) | (apply TL.skip_none; rfl; rfl) | (apply TL.val; rfl; rfl; ((apply V.makeFunc (vs := []) (us := [_, _, _]) <;> rfl))) | (apply TL.val; rfl; rfl; (first | exact vpure | exact vread)) | (apply TL.x; rfl; rfl; (first | exact xgrow | exact xput); intro _ _) | (apply TL.guard; rfl; rfl; rfl; (with_reducible (first | exact Is.ndec | exact Is.dec | exact Is.not | ((fail_if_success exact Is.litT); (fail_if_success exact Is.litF); exact Is.base))); intro _; rotate_left; intro _; rotate_right)))
  rename_i b3 _ b4 _ b5 _
  refine N.ret1 rfl (by (exact rvx)) fun w1 hst => ?_
  obtain ⟨H1, c1, l1, s1⟩ := St.frz hst
  obtain ⟨H2, c2, l2, s2⟩ := St.frz s1
  obtain ⟨H3, c3, l3, s3⟩ := St.frz s2
  exact ⟨(H3, b4, b3, b5), ⟨Hp.cells_le l3 c2, c3, Hp.cells_le (l2.trans l3) c1⟩, rfl, s3.fresh⟩
theorem filter_atI {α : Type} {p : α → Bool} : ∀ {l : List α} {j : Nat} (hj : j < l.length), p l[j] = true → ∃ h : ((l.take j).filter p).length < (l.filter p).length, (l.filter p)[((l.take j).filter p).length] = l[j]
  | [], j, hj, _ => by simp at hj
  | x :: l, 0, _, hp => by
    have hp' : p x = true := hp
    have e : (x :: l).filter p = x :: l.filter p := by rw [List.filter_cons, if_pos hp']
    simp only [List.take_zero, List.filter_nil, List.length_nil, e]
    exact ⟨by simp, rfl⟩
  | x :: l, j + 1, hj, hp => by
    have hj' : j < l.length := by simpa using hj
    obtain ⟨h1, h2⟩ := filter_atI hj' (p := p) hp
    rw [List.take_succ_cons]
    by_cases hx : p x = true
    · have e1 : (x :: l).filter p = x :: l.filter p := by rw [List.filter_cons, if_pos hx]
      have e2 : (x :: l.take j).filter p = x :: (l.take j).filter p := by rw [List.filter_cons, if_pos hx]
      simp only [e1, e2, List.length_cons]
      exact ⟨by omega, by simpa using h2⟩
    · have e1 : (x :: l).filter p = l.filter p := by rw [List.filter_cons, if_neg hx]
      have e2 : (x :: l.take j).filter p = (l.take j).filter p := by rw [List.filter_cons, if_neg hx]
      simp only [e1, e2]
      exact ⟨h1, by simpa using h2⟩
theorem c_IndexStr (s : Slc Bytes) (x : Bytes) (H : Hp) (w : World) (hs : Sat H w) (hg : s.Good H) : Calls Tryd.prog 149 #[s.v, strV x] w (Ret w (intV (idxI (fun y => decide (x = y)) s.els))) := by
  have hlen : s.els.length = s.len := hg.len
  have hlim := hg.lim
  refine T.enter (vs := [s.v, strV x]) (H := H) Tryd.func149 rfl rfl rfl hs ?_
  repeat (any_goals (first | refine T.seq ?_ | refine T.region ?_ | refine TL.nil ?_ | refine N.next ?_ | refine N.inBlock ?_ | refine N.exit_same ?_ | refine N.exit_then ?_ | refine N.ret_then ?_ | refine N.ret_block ?_ | (apply N.exit_other; rfl) | refine T.ret ?_ | refine T.skip ?_ | refine T.exit ?_ | refine T.block ?_ | (apply T.cond_true; rfl) | (apply T.cond_false; rfl) | (apply T.test; rfl; (with_reducible (first | exact Is.ndec | exact Is.dec | exact Is.not | ((fail_if_success exact Is.litT); (fail_if_success exact Is.litF); exact Is.base))); intro _; rotate_left; intro _; rotate_right) | (apply TL.skip; rfl; rfl; rfl) | (apply TL.skip_none; rfl; rfl) | (apply TL.val; rfl; rfl; (first | exact vpure | exact vread)) | (apply TL.x; rfl; rfl; (first | exact xgrow | exact xput); intro _ _) | (apply TL.guard; rfl; rfl; rfl; (with_reducible (first | exact Is.ndec | exact Is.dec | exact Is.not | ((fail_if_success exact Is.litT); (fail_if_success exact Is.litF); exact Is.base))); intro _; rotate_left; intro _; rotate_right)))
  refine T.loop (G := Nat) (fun k => [(0, s.v), (1, strV x), (7, intV s.len), (8, intV k)]) (fun _ => H) (fun _ => []) (fun k => k ≤ s.len ∧ AllTo (fun y => !decide (x = y)) s.els k) (fun k => s.len - k) 0 ⟨Nat.zero_le _, allTo_zero⟩ (by (repeat (first | exact True.intro | refine ⟨rfl, ?_⟩ | refine Sub.int rfl (by omega) ?_))) rfl (by (first | exact List.Sublist.refl _ | exact List.nil_sublist _ | exact List.Sublist.cons _ (List.Sublist.refl _) | exact List.Sublist.cons _ (List.Sublist.cons _ (List.Sublist.refl _)))) ?_
  rintro k ⟨hk, hrel⟩
  repeat (any_goals (first | refine T.seq ?_ | refine T.region ?_ | refine TL.nil ?_ | refine N.next ?_ | refine N.inBlock ?_ | refine N.exit_same ?_ | refine N.exit_then ?_ | refine N.ret_then ?_ | refine N.ret_block ?_ | (apply N.exit_other; rfl) | refine T.ret ?_ | refine T.skip ?_ | refine T.exit ?_ | refine T.block ?_ | (apply T.cond_true; rfl) | (apply T.cond_false; rfl) | (apply T.test; rfl; (with_reducible (first | exact Is.ndec | exact Is.dec | exact Is.not | ((fail_if_success exact Is.litT); (fail_if_success exact Is.litF); exact Is.base))); intro _; rotate_left; intro _; rotate_right) | (apply TL.skip; rfl; rfl; rfl) | (apply TL.skip_none; rfl; rfl) | (apply TL.val; rfl; rfl; (first | exact vpure | exact vread)) | (apply TL.x; rfl; rfl; (first | exact xgrow | exact xput); intro _ _) | (apply TL.guard; rfl; rfl; rfl; (with_reducible (first | exact Is.ndec | exact Is.dec | exact Is.not | ((fail_if_success exact Is.litT); (fail_if_success exact Is.litF); exact Is.base))); intro _; rotate_left; intro _; rotate_right)))
  all_goals (try (apply N.ret_int; rfl; (exact rvx)))
  all_goals (try (refine N.round (k + 1) ?_ ?_ ?_ ?_ ?_; rotate_left 2; (repeat (first | exact True.intro | refine ⟨rfl, ?_⟩ | refine Sub.int rfl (by omega) ?_)); rfl; (first | exact List.Sublist.refl _ | exact List.nil_sublist _ | exact List.Sublist.cons _ (List.Sublist.refl _) | exact List.Sublist.cons _ (List.Sublist.cons _ (List.Sublist.refl _)))))
  all_goals first
    | omega
    | exact ⟨by omega, allTo_up (by omega) hrel (by simp [*])⟩
    | exact (idxI_at (by omega) (by simp [*]) (fun j hj => by have h' := hrel j (by omega) hj; simpa using h')).symm
    | exact (idxI_none (fun j hj => by have h' := hrel j hj (by omega); simpa using h')).symm
theorem c_ContStr (s : Slc Bytes) (x : Bytes) {b : Bool} (hb : s.els.contains x = b) {H : Hp} {w : World} (hs : Sat H w) (hg : s.Good H) : Calls Tryd.prog 137 #[s.v, strV x] w (Ret w (.bool b)) := by
  refine T.enter (vs := [s.v, strV x]) (H := H) Tryd.func137 rfl rfl rfl hs ?_
  repeat (any_goals (first | refine T.seq ?_ | refine T.region ?_ | refine TL.nil ?_ | refine N.next ?_ | refine N.inBlock ?_ | refine N.exit_same ?_ | refine N.exit_then ?_ | refine N.ret_then ?_ | refine N.ret_block ?_ | (apply N.exit_other; rfl) | refine T.ret ?_ | refine T.skip ?_ | refine T.exit ?_ | refine T.block ?_ | (apply T.cond_true; rfl) | (apply T.cond_false; rfl) | (apply T.test; rfl; (with_reducible (first | exact Is.ndec | exact Is.dec | exact Is.not | ((fail_if_success exact Is.litT); (fail_if_success exact Is.litF); exact Is.base))); intro _; rotate_left; intro _; rotate_right) | (apply TL.skip; rfl; rfl; rfl) | (apply TL.skip_none; rfl; rfl) | (apply TL.callE (f := 149) [s.v, strV x] Tryd.call149; rfl; rfl; rfl; rfl; (exact fun _ hs => c_IndexStr s x _ _ hs.sat hg)) | (apply TL.val; rfl; rfl; (first | exact vpure | exact vread)) | (apply TL.x; rfl; rfl; (first | exact xgrow | exact xput); intro _ _) | (apply TL.guard; rfl; rfl; rfl; (with_reducible (first | exact Is.ndec | exact Is.dec | exact Is.not | ((fail_if_success exact Is.litT); (fail_if_success exact Is.litF); exact Is.base))); intro _; rotate_left; intro _; rotate_right)))
  all_goals (try (first | (apply N.ret_bool; rfl; (exact rvx)) | (apply N.ret_int; rfl; (exact rvx)) | (apply N.ret_val; rfl; (exact rvx))))
  refine (idxI_ge _ _).trans ?_
  rw [← hb, Bool.eq_iff_iff, List.any_eq_true, List.contains_iff_mem]
  constructor
  · rintro ⟨y, hy, h⟩; rw [of_decide_eq_true h]; exact hy
  · intro h; exact ⟨x, h, by simp⟩
theorem asked_yes {a b c : Prop} [Decidable a] [Decidable b] [Decidable c] {h v : Bool} (hh : (decide a || (h && !(decide b && decide c) && !v)) = true) : a ∨ (h = true ∧ ¬ (b ∧ c) ∧ v = false) := by
  revert hh
  by_cases ha : a <;> by_cases hb : b <;> by_cases hc : c <;> cases h <;> cases v <;> simp [*]
theorem asked_no {a b c : Prop} [Decidable a] [Decidable b] [Decidable c] {h v : Bool} (hh : (decide a || (h && !(decide b && decide c) && !v)) = false) : ¬ a ∧ (h = false ∨ (b ∧ c) ∨ v = true) := by
  revert hh
  by_cases ha : a <;> by_cases hb : b <;> by_cases hc : c <;> cases h <;> cases v <;> simp [*]
def zoLL {G : Type} (rd : LoopState → Option Code → Loop) (LL : G → List Loc) (b ba b4 rl : Nat) (x : Bytes) : Bool × G → List Loc
  | (false, g) => .any (b + 1) (.loop (rd .ready none)) :: .any b (.deferred (some [])) :: .blk ba 9 [strV x] :: .blk b4 77 [.func (.yield rl) #[] #[]] :: LL g
  | (true, g) => .any (b + 1) (.loop (rd .done (some .ret))) :: .any b (.deferred (some [])) :: .blk ba 9 [strV x] :: .blk b4 77 [.func (.yield rl) #[] #[]] :: LL g
set_option maxHeartbeats 8000000 in
/-- 'zones' gives the zones that are asked to yield, until it is told to stop. -/
theorem c_izones1 (r : Res) (q : Question) (left : Slc Bytes) (bq br bl : Nat) {Hc : Hp} (hq : Hc.cells bq 0 (enc q)) (hr0 : Hc.cells br 0 (enc r)) (hl0 : Hc.cells bl 0 [left.v]) (hr : Enc.good Hc r) (hlg : left.Good Hc) (hn : nameOK q.name = true) {G : Type} (Φ : Nat → G → Prop) (Φs : G → Prop) (HH : G → Hp) (LL : G → List Loc) {w0 : World} {H0 : Hp} {rl : Nat} (hle : ∀ k g, Φ k g → Hc.le (HH g))
    (hy : ∀ k g, Φ k g → ∀ (h : k < (zonesC (r.K.map Signed.c) q left.els).length) (E : List Loc) w, St w0 H0 (HH g) (LL g ++ E) w → YieldAt (FW none) 0 Tryd.prog rl #[strV (zonesC (r.K.map Signed.c) q left.els)[k]] w (fun e w' => ∃ b g', e = .returned (.bool b) ∧ (if b = true then Φ (k + 1) g' else Φs g') ∧ St w0 H0 (HH g') (LL g' ++ E) w'))
    (g0 : G) (h0 : Φ 0 g0) {w : World} (hs : St w0 H0 (HH g0) (LL g0) w) :
    CallsIn (FW none) 0 Tryd.prog 136 #[.func (.yield rl) #[] #[], .pointer (some ⟨bq, 0, none⟩), .pointer (some ⟨br, 0, none⟩), .pointer (some ⟨bl, 0, none⟩)] w (fun e w' => ∃ v g, e = .returned v ∧ (Φ (zonesC (r.K.map Signed.c) q left.els).length g ∨ Φs g) ∧ St w0 H0 (HH g) (LL g) w') := by
  obtain ⟨zs, hzs⟩ : ∃ zs, zonesC (r.K.map Signed.c) q left.els = zs := ⟨_, rfl⟩
  have hzf : (aboveC q.name).filter (asked (r.K.map Signed.c) q left.els) = zs := hzs
  rw [hzs] at hy
  rw [hzs]
  have hq0 : (HH g0).cells bq 0 (enc q) := Hp.cells_le (hle 0 g0 h0) hq
  refine T.enterInM (vs := [.func (.yield rl) #[] #[], .pointer (some ⟨bq, 0, none⟩), .pointer (some ⟨br, 0, none⟩), .pointer (some ⟨bl, 0, none⟩)]) Tryd.func136 rfl rfl rfl hs ?_
  repeat (any_goals (first | refine T.seq ?_ | refine T.region ?_ | refine TL.nil ?_ | refine N.next ?_ | refine N.inBlock ?_ | refine N.exit_same ?_ | refine N.exit_then ?_ | refine N.ret_then ?_ | refine N.ret_block ?_ | (apply N.exit_other; rfl) | refine T.ret ?_ | refine T.skip ?_ | refine T.exit ?_ | refine T.block ?_ | (apply T.cond_true; rfl) | (apply T.cond_false; rfl) | (apply T.test; rfl; (with_reducible (first | exact Is.ndec | exact Is.dec | exact Is.not | ((fail_if_success exact Is.litT); (fail_if_success exact Is.litF); exact Is.base))); intro _; rotate_left; intro _; rotate_right) | (apply TL.skip; rfl; rfl; rfl) | (apply TL.skip_none; rfl; rfl) | (apply TL.val; rfl; rfl; (apply V.load_H; rfl; rfl; rfl; exact hq0 0 _ rfl)) | (apply TL.x; rfl; rfl; (apply X.callO0 (f := 88) Tryd.call88; rfl; rfl; (exact fun _ hs => c_above q.name _ _ hs.sat)); intro _ _) | (apply TL.val; rfl; rfl; (first | exact vpure | exact vread)) | (apply TL.x; rfl; rfl; (first | exact xgrow | exact xput); intro _ _) | (apply TL.guard; rfl; rfl; rfl; (with_reducible (first | exact Is.ndec | exact Is.dec | exact Is.not | ((fail_if_success exact Is.litT); (fail_if_success exact Is.litF); exact Is.base))); intro _; rotate_left; intro _; rotate_right)))
  rename_i b4 _ ba _
  refine T.rangeFunc (G := Bool × Bytes × G) (fun g => if g.1 = true then .ret else .normal) (fun g => HH g.2.2) (fun g => .blk ba 9 [strV g.2.1] :: .blk b4 77 [.func (.yield rl) #[] #[]] :: LL g.2.2) (fun g => if g.1 = true then Φs g.2.2 else Φ zs.length g.2.2) rfl Tryd.call123 (fun g _ => by obtain ⟨_ | _, _⟩ := g <;> trivial) ?_ ?_
  · intro fn a b hf w1 hs1
    refine (c_above1 q.name hn ba (G := Bool × G) (fun k g => g.1 = false ∧ Φ (((aboveC q.name).take k).filter (asked (r.K.map Signed.c) q left.els)).length g.2) (fun g => g.1 = true ∧ Φs g.2) (fun g => HH g.2) (fun x g => zoLL (recd fn a.tmps _ _ _ b) LL b ba b4 rl x g) 2 (fun x g => by obtain ⟨_ | _, _⟩ := g <;> rfl) (fun x y g => by obtain ⟨_ | _, _⟩ := g <;> rfl) ?_ (false, g0) ⟨rfl, h0⟩ hs1).mono ?_
    · rintro k ⟨st, g⟩ ⟨hst0, hΦ⟩ hk x w2 hs2
      simp only at hst0 hΦ hs2
      subst hst0
      obtain ⟨z, hz⟩ : ∃ z, (aboveC q.name)[k] = z := ⟨_, rfl⟩
      rw [hz]
      have hzn : nameOK z = true := hz ▸ aboveC_at hn hk
      have hleg := hle _ g hΦ
      have hqg : (HH g).cells bq 0 (enc q) := Hp.cells_le hleg hq
      have hrg0 : (HH g).cells br 0 (enc r) := Hp.cells_le hleg hr0
      have hlg0 : (HH g).cells bl 0 [left.v] := Hp.cells_le hleg hl0
      have hrg : Enc.good (HH g) r := Enc.mono hleg hr
      have hlgg := hlg.mono hleg
      have htk : ((aboveC q.name).take (k + 1)).filter (asked (r.K.map Signed.c) q left.els) = ((aboveC q.name).take k).filter (asked (r.K.map Signed.c) q left.els) ++ if asked (r.K.map Signed.c) q left.els z = true then [z] else [] := by rw [filter_up hk, hz]
      obtain ⟨sv, hsv⟩ : ∃ x, getS r.K z 2 = x := ⟨_, rfl⟩
      obtain ⟨hv, hhv⟩ : ∃ x, has (r.K.map Signed.c) z 2 = x := ⟨_, rfl⟩
      obtain ⟨cv, hcv⟩ : ∃ x, left.els.contains z = x := ⟨_, rfl⟩
      have hask : asked (r.K.map Signed.c) q left.els z = (decide (z = [46]) || (hv && !(decide (z = q.name) && decide (q.typ = 6)) && !cv)) := by unfold asked; rw [hhv, hcv]
      refine yieldAt_of (i := 0) hs2 rfl rfl _ (Fr.round1 hf rfl) (env₁ := [(1, .pointer (some ⟨bq, 0, none⟩)), (2, .pointer (some ⟨br, 0, none⟩)), (3, .pointer (some ⟨bl, 0, none⟩)), (4, .pointer (some ⟨b4, 0, none⟩)), (5, strV z)]) ?_ ?_
      · repeat (any_goals (first | refine T.seq ?_ | refine T.region ?_ | refine TL.nil ?_ | refine N.next ?_ | refine N.inBlock ?_ | refine N.exit_same ?_ | refine N.exit_then ?_ | refine N.ret_then ?_ | refine N.ret_block ?_ | (apply N.exit_other; rfl) | refine T.ret ?_ | refine T.skip ?_ | refine T.exit ?_ | refine T.block ?_ | (apply T.cond_true; rfl) | (apply T.cond_false; rfl) | (apply T.test; rfl; (with_reducible (first | exact Is.ndec | exact Is.dec | exact Is.not | ((fail_if_success exact Is.litT); (fail_if_success exact Is.litF); exact Is.base))); intro _; rotate_left; intro _; rotate_right) | (apply TL.skip; rfl; rfl; rfl) | (apply TL.skip_none; rfl; rfl) | (apply TL.val; rfl; rfl; (first | exact vpure | exact vread)) | (apply TL.x; rfl; rfl; (first | exact xgrow | exact xput); intro _ _) | (apply TL.guard; rfl; rfl; rfl; (with_reducible (first | exact Is.ndec | exact Is.dec | exact Is.not | ((fail_if_success exact Is.litT); (fail_if_success exact Is.litF); exact Is.base))); intro _; rotate_left; intro _; rotate_right)))
        exact N.both (by (repeat (first | exact True.intro | refine ⟨rfl, ?_⟩ | refine Sub.int rfl (by omega) ?_)))
      · simp only [zoLL, List.set_cons_zero]
        cases ha : asked (r.K.map Signed.c) q left.els z with
        | true =>
          obtain ⟨hkz, hkz2⟩ := filter_atI (p := asked (r.K.map Signed.c) q left.els) hk (by rw [hz]; exact ha)
          have hkz' : (((aboveC q.name).take k).filter (asked (r.K.map Signed.c) q left.els)).length < zs.length := by rw [← hzf]; exact hkz
          have hzk : zs[(((aboveC q.name).take k).filter (asked (r.K.map Signed.c) q left.els)).length]'hkz' = z := by rw [← hz, ← hkz2]; simp only [hzf]
          have hY := fun (E : List Loc) w (hs : St w0 H0 (HH g) (E ++ LL g) w) => YieldAt.weaken (hy _ g hΦ hkz' E w (hs.perm List.perm_append_comm)) (R' := fun e w' => ∃ b g', e = .returned (.bool b) ∧ (if b = true then Φ ((((aboveC q.name).take k).filter (asked (r.K.map Signed.c) q left.els)).length + 1) g' else Φs g') ∧ St w0 H0 (HH g') (E ++ LL g') w') (fun e w' ⟨b, g', h1, h2, h3⟩ => ⟨b, g', h1, h2, h3.perm List.perm_append_comm⟩)
          rw [hzk] at hY
          rw [ha, if_pos rfl] at htk
          rw [hask] at ha
          repeat (any_goals (first | refine T.seq ?_ | refine T.region ?_ | refine TL.nil ?_ | refine N.next ?_ | refine N.inBlock ?_ | refine N.exit_same ?_ | refine N.exit_then ?_ | refine N.ret_then ?_ | refine N.ret_block ?_ | (apply N.exit_other; rfl) | refine T.ret ?_ | refine T.skip ?_ | refine T.exit ?_ | refine T.block ?_ | (apply T.cond_true; rfl) | (apply T.cond_false; rfl) | (apply T.test; rfl; (with_reducible (first | exact Is.ndec | exact Is.dec | exact Is.not | ((fail_if_success exact Is.litT); (fail_if_success exact Is.litF); exact Is.base))); intro _; rotate_left; intro _; rotate_right) | (apply TL.skip; rfl; rfl; rfl) | (apply TL.skip_none; rfl; rfl) | (apply TL.val; rfl; rfl; (apply V.load_H; rfl; rfl; rfl; exact hqg 0 _ rfl)) | (apply TL.val; rfl; rfl; (apply V.load_H; rfl; rfl; rfl; exact hqg 1 _ rfl)) | (apply TL.val; rfl; rfl; (apply V.load_H; rfl; rfl; rfl; exact hlg0 0 _ rfl)) | (apply TL.val; rfl; rfl; (apply V.load_H_row; rfl; rfl; rfl; exact hrg0; rfl)) | (apply TL.callE (f := 82) [.agg (enc r).toArray, strV z, intV 2] Tryd.call82; rfl; rfl; rfl; rfl; (exact fun _ hs => c_isetV hsv hhv hs.sat hrg)) | (apply TL.x; rfl; rfl; (apply X.storeTo 0 (enc sv); rfl; rfl; rfl; rfl; rfl; rfl; rfl; rfl; rfl; rfl); intro _ _) | (apply TL.callE (f := 137) [left.v, strV z] Tryd.call137; rfl; rfl; rfl; rfl; (exact fun _ hs => c_ContStr left z hcv hs.sat hlgg)) | (apply TL.yield; rfl; rfl; rfl; rfl; (exact fun w hs => hY [.any (b + 1) (.loop (recd fn a.tmps _ _ _ b .busy none)), .any b (.deferred (some [])), .blk ba 9 [strV x], .blk b4 77 [.func (.yield rl) #[] #[]]] w (hs.sub (by first | exact List.Sublist.refl _ | exact List.Sublist.cons _ (List.Sublist.refl _)))); intro bb g' hb) | (apply TL.val; rfl; rfl; (first | exact vpure | exact vread)) | (apply TL.x; rfl; rfl; (first | exact xgrow | exact xput); intro _ _) | (apply TL.guard; rfl; rfl; rfl; (with_reducible (first | exact Is.ndec | exact Is.dec | exact Is.not | ((fail_if_success exact Is.litT); (fail_if_success exact Is.litF); exact Is.base))); intro _; rotate_left; intro _; rotate_right)))
          all_goals (try contradiction)
          all_goals (try (exfalso; rcases asked_yes ha with h1 | ⟨h1, h2, h3⟩ <;> first | contradiction | exact h2 ⟨by assumption, by assumption⟩ | exact absurd (h1.symm.trans (by assumption : hv = false)) (by decide) | exact absurd (h3.symm.trans (by assumption : cv = true)) (by decide)))
          all_goals (rename_i hbb; rw [hbb] at hb)
          all_goals first
            | (refine N.round_out (i := 0) (e := .ret) trivial rfl fun w hs => ⟨false, (true, g'), rfl, ?_, hs⟩
               rw [if_neg (by simp)]
               exact ⟨rfl, hb⟩)
            | (refine N.round_out (i := 0) (e := .normal) trivial rfl fun w hs => ⟨true, (false, g'), rfl, ?_, hs⟩
               rw [if_pos rfl]
               refine ⟨rfl, ?_⟩
               show Φ _ g'
               rw [htk, List.length_append]
               exact hb)
        | false =>
          rw [ha, if_neg (by simp), List.append_nil] at htk
          rw [hask] at ha
          repeat (any_goals (first | refine T.seq ?_ | refine T.region ?_ | refine TL.nil ?_ | refine N.next ?_ | refine N.inBlock ?_ | refine N.exit_same ?_ | refine N.exit_then ?_ | refine N.ret_then ?_ | refine N.ret_block ?_ | (apply N.exit_other; rfl) | refine T.ret ?_ | refine T.skip ?_ | refine T.exit ?_ | refine T.block ?_ | (apply T.cond_true; rfl) | (apply T.cond_false; rfl) | (apply T.test; rfl; (with_reducible (first | exact Is.ndec | exact Is.dec | exact Is.not | ((fail_if_success exact Is.litT); (fail_if_success exact Is.litF); exact Is.base))); intro _; rotate_left; intro _; rotate_right) | (apply TL.skip; rfl; rfl; rfl) | (apply TL.skip_none; rfl; rfl) | (apply TL.val; rfl; rfl; (apply V.load_H; rfl; rfl; rfl; exact hqg 0 _ rfl)) | (apply TL.val; rfl; rfl; (apply V.load_H; rfl; rfl; rfl; exact hqg 1 _ rfl)) | (apply TL.val; rfl; rfl; (apply V.load_H; rfl; rfl; rfl; exact hlg0 0 _ rfl)) | (apply TL.val; rfl; rfl; (apply V.load_H_row; rfl; rfl; rfl; exact hrg0; rfl)) | (apply TL.callE (f := 82) [.agg (enc r).toArray, strV z, intV 2] Tryd.call82; rfl; rfl; rfl; rfl; (exact fun _ hs => c_isetV hsv hhv hs.sat hrg)) | (apply TL.x; rfl; rfl; (apply X.storeTo 0 (enc sv); rfl; rfl; rfl; rfl; rfl; rfl; rfl; rfl; rfl; rfl); intro _ _) | (apply TL.callE (f := 137) [left.v, strV z] Tryd.call137; rfl; rfl; rfl; rfl; (exact fun _ hs => c_ContStr left z hcv hs.sat hlgg)) | (apply TL.val; rfl; rfl; (first | exact vpure | exact vread)) | (apply TL.x; rfl; rfl; (first | exact xgrow | exact xput); intro _ _) | (apply TL.guard; rfl; rfl; rfl; (with_reducible (first | exact Is.ndec | exact Is.dec | exact Is.not | ((fail_if_success exact Is.litT); (fail_if_success exact Is.litF); exact Is.base))); intro _; rotate_left; intro _; rotate_right)))
          all_goals (try contradiction)
          all_goals (try (exfalso; obtain ⟨h1, h2⟩ := asked_no ha; first | contradiction | (rcases h2 with h2 | ⟨h2, h3⟩ | h2 <;> first | contradiction | exact absurd (h2.symm.trans (by assumption : hv = true)) (by decide) | exact absurd (h2.symm.trans (by assumption : cv = false)) (by decide))))
          all_goals
            refine N.round_out (i := 1) (e := .normal) trivial rfl fun w hs => ⟨true, (false, g), rfl, ?_, hs.sub (List.Sublist.cons _ (List.Sublist.refl _))⟩
            rw [if_pos rfl]
            refine ⟨rfl, ?_⟩
            show Φ _ g
            rw [htk]
            exact hΦ
    · rintro e w2 ⟨v, x, ⟨st, g⟩, rfl, (⟨hst0, hΦ⟩ | ⟨hst0, hΦ⟩), hs2⟩
      · simp only at hst0
        subst hst0
        refine ⟨(false, x, g), v, .ready, rfl, ?_, by simp, hs2⟩
        rw [if_neg (by simp)]
        rw [List.take_length, hzf] at hΦ
        exact hΦ
      · simp only at hst0
        subst hst0
        exact ⟨(true, x, g), v, .done, rfl, by rw [if_pos rfl]; exact hΦ, by simp, hs2⟩
  · rintro b ⟨st, x, g⟩ hΦ
    cases st with
    | false =>
      rw [if_neg (by simp)] at hΦ
      show N _ _ _ _ .normal _ _ _
      repeat (any_goals (first | refine T.seq ?_ | refine T.region ?_ | refine TL.nil ?_ | refine N.next ?_ | refine N.inBlock ?_ | refine N.exit_same ?_ | refine N.exit_then ?_ | refine N.ret_then ?_ | refine N.ret_block ?_ | (apply N.exit_other; rfl) | refine T.ret ?_ | refine T.skip ?_ | refine T.exit ?_ | refine T.block ?_ | (apply T.cond_true; rfl) | (apply T.cond_false; rfl) | (apply T.test; rfl; (with_reducible (first | exact Is.ndec | exact Is.dec | exact Is.not | ((fail_if_success exact Is.litT); (fail_if_success exact Is.litF); exact Is.base))); intro _; rotate_left; intro _; rotate_right) | (apply TL.skip; rfl; rfl; rfl) | (apply TL.skip_none; rfl; rfl) | (apply TL.val; rfl; rfl; (first | exact vpure | exact vread)) | (apply TL.x; rfl; rfl; (first | exact xgrow | exact xput); intro _ _) | (apply TL.guard; rfl; rfl; rfl; (with_reducible (first | exact Is.ndec | exact Is.dec | exact Is.not | ((fail_if_success exact Is.litT); (fail_if_success exact Is.litF); exact Is.base))); intro _; rotate_left; intro _; rotate_right)))
      refine N.markedEnd (i := 0) rfl ?_
      exact N.end0 rfl fun w hs => ⟨_, g, rfl, .inl hΦ, hs.sub (List.Sublist.cons _ (List.Sublist.cons _ (List.Sublist.cons _ (List.Sublist.refl _))))⟩
    | true =>
      rw [if_pos rfl] at hΦ
      show N _ _ _ _ .ret _ _ _
      repeat (any_goals (first | refine T.seq ?_ | refine T.region ?_ | refine TL.nil ?_ | refine N.next ?_ | refine N.inBlock ?_ | refine N.exit_same ?_ | refine N.exit_then ?_ | refine N.ret_then ?_ | refine N.ret_block ?_ | (apply N.exit_other; rfl) | refine T.ret ?_ | refine T.skip ?_ | refine T.exit ?_ | refine T.block ?_ | (apply T.cond_true; rfl) | (apply T.cond_false; rfl) | (apply T.test; rfl; (with_reducible (first | exact Is.ndec | exact Is.dec | exact Is.not | ((fail_if_success exact Is.litT); (fail_if_success exact Is.litF); exact Is.base))); intro _; rotate_left; intro _; rotate_right) | (apply TL.skip; rfl; rfl; rfl) | (apply TL.skip_none; rfl; rfl) | (apply TL.val; rfl; rfl; (first | exact vpure | exact vread)) | (apply TL.x; rfl; rfl; (first | exact xgrow | exact xput); intro _ _) | (apply TL.guard; rfl; rfl; rfl; (with_reducible (first | exact Is.ndec | exact Is.dec | exact Is.not | ((fail_if_success exact Is.litT); (fail_if_success exact Is.litF); exact Is.base))); intro _; rotate_left; intro _; rotate_right)))
      exact N.marked (i := 0) rfl (N.ret0 rfl fun w hs => ⟨_, g, rfl, .inr hΦ, hs.sub (List.Sublist.cons _ (List.Sublist.cons _ (List.Sublist.cons _ (List.Sublist.refl _))))⟩)
end Go.Proofs.YtfbhcemlnojejaaDoor
namespace Go.Proofs.YtfbhcemlnojejaaDoor
set_option linter.unusedVariables false
set_option linter.unusedSimpArgs false
open Go Go.RowKit
open Enc (enc)
set_option maxRecDepth 20000

/-- api.Next. -/
structure Nxt where
  kind : Int
  zone : Bytes
  addrs : Slc Int
  q : Question
  sets : Slc Signed
instance : Enc Nxt where
  size := 6
  enc x := [intV x.kind, strV x.zone, .slice x.addrs.A x.addrs.len x.addrs.cap, strV x.q.name, intV x.q.typ, .slice x.sets.A x.sets.len x.sets.cap]
  good H x := I64 x.kind ∧ LenOk x.zone ∧ x.addrs.Good H ∧ Enc.good H x.q ∧ x.sets.Good H
  len _ := rfl
  mono hle h := ⟨h.1, h.2.1, h.2.2.1.mono hle, Enc.mono hle h.2.2.2.1, h.2.2.2.2.mono hle⟩
  one _ := rfl
  pos := by decide
def Nxt.c (x : Nxt) : NextC := ⟨x.kind, x.zone, x.addrs.els, x.q, x.sets.els.map Signed.c⟩
def nilX : Nxt := ⟨0, [], Slc.nil _, ⟨[], 0⟩, Slc.nil _⟩
def darkX : Nxt := ⟨3, [], Slc.nil _, ⟨[], 0⟩, Slc.nil _⟩
theorem nilX_good {H : Hp} : Enc.good H nilX := ⟨by decide, by decide, Slc.nil_good, ⟨by decide, by decide⟩, Slc.nil_good⟩
theorem darkX_good {H : Hp} : Enc.good H darkX := ⟨by decide, by decide, Slc.nil_good, ⟨by decide, by decide⟩, Slc.nil_good⟩
section
variable {P : Program} {n : FK} {w0 : World} {H0 H HS : Hp} {Q : Exit → Act → World → Prop} {env : List (Nat × Value)} {L LS : List Loc} {ops rest : List Oper} {K : Act → World → Prop} {k : Nat} {ex : List Nat} {fuel : Nat} {ok : Bool} {α : Type} [Enc α]
/-- A row that nobody writes any more, in a region that draws its order. -/
theorem GT.frzRow (i : Nat) {v : Value} {e : TypeId} {size m : Nat} (els : List α) {xs : List Value} (hi : L[i]? = some (.row v e size m xs)) (hsz : size = Enc.size α) (hx : xs = encs els) (hm : els.length = m) (hg : ∀ x ∈ els, Enc.good H x) (h : ∀ (H' : Hp) (s : Slc α), s.v = v → s.els = els → s.Good H' → H.le H' → GT P n w0 H0 ops K HS LS ok fuel k ex env H' (L.eraseIdx i)) : GT P n w0 H0 ops K HS LS ok fuel k ex env H L := by
  subst hx
  refine ⟨fun hc a w hf hs hok => ?_⟩
  obtain ⟨H', s, e1, e2, e3, e4, e5⟩ := (hs.perm (perm_of hi)).freezeRow hsz hm hg
  exact (h H' s e1 e2 e3 e4).out hc a w hf e5 hok
/-- 's[:hi:mx]'. -/
theorem V.sliceHM [Tys P] {S : World → Prop} (hi mx : Nat) {t e : TypeId} {x z u : Operand} {A : Option Addr} {m c : Nat} {j l : Int} {k ke : TyK} {r p : IntKind} (hk : tyk P t = some k) (hd : k.desc = .slice e) (hke : tyk P e = some ke) (hx : ev env x = some (.slice A m c)) (hz : ev env z = some (.int r j)) (hu : ev env u = some (.int p l)) (h2 : j = hi) (h3 : l = mx) (h5 : hi ≤ mx) (h6 : mx ≤ c) :
    V P n S env (.slice t x none (some z) (some u)) (.slice A hi mx) :=
  ⟨fun o a w ho hf _ => by
    obtain ⟨d, hu', hf'⟩ := (tyk_ok hk).und
    rw [hd] at hf'
    simp only [TyD.fits] at hf'
    subst hf'
    have b1 := run_bound (P := P) (w := w) (k := p) (i := l) (j := mx) (y := c) (c := .slice3Acap) h3 h6
    have b2 := run_bound (P := P) (w := w) (k := r) (i := j) (j := hi) (y := mx) (c := .slice3B) h2 h5
    unfold execOp; rw [ho]
    simp [hf.ev hx, hf.ev hz, hf.ev hu, Instr.sliceAt, Instr.slice, Instr.sliceBounds, run_underlying hu', b1, b2, (tyk_ok hke).sizeOf w]
    cases A <;> simp [Addr.add]⟩
end
theorem c_ifollowT {r : Res} {s : Bytes} {t : Int} {k : List SignedC} {e : Bytes} (h : followI (r.K.map Signed.c) 9 [] s t = some (k, e)) {H : Hp} {w : World} (hs : Sat H w) (hr : Enc.good H r) (hK : knownOK (r.K.map Signed.c) = true) (hl : LenOk s) (ht : I64 t) : Calls Tryd.prog 81 #[.agg (enc r).toArray, strV s, intV t] w (RetO w H (fun g : Value × List Signed => g.2.map Signed.c = k ∧ g.2.length ≤ 8 ∧ LenOk e ∧ ∀ x ∈ g.2, x ∈ r.K) (fun g => .tuple #[g.1, strV e, .bool true]) (fun _ => H) (fun g => [.row g.1 37 5 g.2.length (encs g.2)])) := by
  have := c_ifollow r s t H w hs hr hK hl ht
  rw [h] at this
  exact this
theorem c_ifollowF {r : Res} {s : Bytes} {t : Int} (h : followI (r.K.map Signed.c) 9 [] s t = none) {H : Hp} {w : World} (hs : Sat H w) (hr : Enc.good H r) (hK : knownOK (r.K.map Signed.c) = true) (hl : LenOk s) (ht : I64 t) : Calls Tryd.prog 81 #[.agg (enc r).toArray, strV s, intV t] w (Ret w (.tuple #[.slice none 0 0, strV [], .bool false])) := by
  have := c_ifollow r s t H w hs hr hK hl ht
  rw [h] at this
  exact this
/-- What 'next' hands back. -/
abbrev NextRet (r : Res) (f : Nat) (q : Question) (left : List Bytes) (n : Nat) (H : Hp) (w : World) : Ending → World → Prop := RetF w H (fun p : Hp × Nxt => p.2.c = nextI (r.K.map Signed.c) r.hints.els f q left ∧ Enc.good p.1 p.2 ∧ (0 < p.2.addrs.len → n ≤ p.2.addrs.b)) (fun p => .agg (enc p.2).toArray) (fun p => p.1)
def NextAt (r : Res) (f : Nat) : Prop := ∀ (q : Question) (left : Slc Bytes) (n : Nat) (H : Hp) (w : World), n ≤ w.heap.size → Sat H w → Enc.good H r → left.Good H → left.len + f = 9 → nameOK q.name = true → I64 q.typ → Calls Tryd.prog 84 #[.agg (enc r).toArray, .agg (enc q).toArray, left.v] w (NextRet r f q left.els n H w)
theorem c_ihostN {r : Res} {s : Bytes} (left : Slc Bytes) (h : hostQ (r.K.map Signed.c) s = none) {H : Hp} {w : World} (hs : Sat H w) (hr : Enc.good H r) (hK : knownOK (r.K.map Signed.c) = true) (hl : LenOk s) : Calls Tryd.prog 119 #[.agg (enc r).toArray, strV s, left.v] w (Ret w (.tuple #[.agg (enc nilX).toArray, .bool false])) := by
  refine T.enter (vs := [.agg (enc r).toArray, strV s, left.v]) (H := H) Tryd.func119 rfl rfl rfl hs ?_
  unfold hostQ at h
  cases hf : followI (r.K.map Signed.c) 9 [] s 1 with
  | none =>
    repeat (any_goals (first | refine T.seq ?_ | refine T.region ?_ | refine TL.nil ?_ | refine N.next ?_ | refine N.inBlock ?_ | refine N.exit_same ?_ | refine N.exit_then ?_ | refine N.ret_then ?_ | refine N.ret_block ?_ | (apply N.exit_other; rfl) | refine T.ret ?_ | refine T.skip ?_ | refine T.exit ?_ | refine T.block ?_ | (apply T.cond_true; rfl) | (apply T.cond_false; rfl) | (apply T.test; rfl; (with_reducible (first | exact Is.ndec | exact Is.dec | exact Is.not | ((fail_if_success exact Is.litT); (fail_if_success exact Is.litF); exact Is.base))); intro _; rotate_left; intro _; rotate_right) | (apply TL.skip; rfl; rfl; rfl) | (apply TL.skip_none; rfl; rfl) | (apply TL.callE (f := 81) [.agg (enc r).toArray, strV s, intV 1] Tryd.call81; rfl; rfl; rfl; rfl; (exact fun _ hs => c_ifollowF hf hs.sat hr hK hl (by decide))) | (apply TL.val; rfl; rfl; (apply V.build; rfl; rfl; rfl; rfl; rfl; rfl)) | (apply TL.x; rfl; rfl; (apply X.storeTo 0 (enc nilX); rfl; rfl; rfl; rfl; rfl; rfl; rfl; rfl; rfl; rfl); intro _ _) | (apply TL.val; rfl; rfl; (first | exact vpure | exact vread)) | (apply TL.x; rfl; rfl; (first | exact xgrow | exact xput); intro _ _) | (apply TL.guard; rfl; rfl; rfl; (with_reducible (first | exact Is.ndec | exact Is.dec | exact Is.not | ((fail_if_success exact Is.litT); (fail_if_success exact Is.litF); exact Is.base))); intro _; rotate_left; intro _; rotate_right)))
    all_goals (try contradiction)
    exact N.ret_two rfl (by (exact rvx)) (by (exact rvx)) rfl
  | some p =>
    obtain ⟨k, e⟩ := p
    rw [hf] at h
    have hb : has (r.K.map Signed.c) e 1 = true := by
      cases hb : has (r.K.map Signed.c) e 1 with
      | true => rfl
      | false => simp only [hb] at h; cases h
    obtain ⟨x, hx⟩ : ∃ x, getS r.K e 1 = x := ⟨_, rfl⟩
    repeat (any_goals (first | refine T.seq ?_ | refine T.region ?_ | refine TL.nil ?_ | refine N.next ?_ | refine N.inBlock ?_ | refine N.exit_same ?_ | refine N.exit_then ?_ | refine N.ret_then ?_ | refine N.ret_block ?_ | (apply N.exit_other; rfl) | refine T.ret ?_ | refine T.skip ?_ | refine T.exit ?_ | refine T.block ?_ | (apply T.cond_true; rfl) | (apply T.cond_false; rfl) | (apply T.test; rfl; (with_reducible (first | exact Is.ndec | exact Is.dec | exact Is.not | ((fail_if_success exact Is.litT); (fail_if_success exact Is.litF); exact Is.base))); intro _; rotate_left; intro _; rotate_right) | (apply TL.skip; rfl; rfl; rfl) | (apply TL.skip_none; rfl; rfl) | (apply TL.x; rfl; rfl; (apply X.callO0 (f := 81) Tryd.call81; rfl; rfl; exact (fun _ hs => c_ifollowT hf hs.sat hr hK hl (by decide))); intro g hg) | (apply TL.callE (f := 82) [.agg (enc r).toArray, strV e, intV 1] Tryd.call82; rfl; rfl; rfl; rfl; (exact fun _ hs => c_isetV hx hb hs.sat hr)) | (apply TL.val; rfl; rfl; (apply V.build; rfl; rfl; rfl; rfl; rfl; rfl)) | (apply TL.x; rfl; rfl; (apply X.storeTo 0 (enc x); rfl; rfl; rfl; rfl; rfl; rfl; rfl; rfl; rfl; rfl); intro _ _) | (apply TL.x; rfl; rfl; (apply X.storeTo 2 (enc nilX); rfl; rfl; rfl; rfl; rfl; rfl; rfl; rfl; rfl; rfl); intro _ _) | (apply TL.val; rfl; rfl; (first | exact vpure | exact vread)) | (apply TL.x; rfl; rfl; (first | exact xgrow | exact xput); intro _ _) | (apply TL.guard; rfl; rfl; rfl; (with_reducible (first | exact Is.ndec | exact Is.dec | exact Is.not | ((fail_if_success exact Is.litT); (fail_if_success exact Is.litF); exact Is.base))); intro _; rotate_left; intro _; rotate_right)))
    all_goals (try contradiction)
    exact N.ret_two rfl (by (exact rvx)) (by (exact rvx)) rfl
theorem c_ihostS {r : Res} {s e : Bytes} {f n : Nat} (left : Slc Bytes) (hN : NextAt r f) (h : hostQ (r.K.map Signed.c) s = some e) {H : Hp} {w : World} (hnw : n ≤ w.heap.size) (hs : Sat H w) (hr : Enc.good H r) (hK : knownOK (r.K.map Signed.c) = true) (hn : nameOK s = true) (hlg : left.Good H) (hf9 : left.len + f = 9) : Calls Tryd.prog 119 #[.agg (enc r).toArray, strV s, left.v] w (RetF w H (fun p : Hp × Nxt => p.2.c = nextI (r.K.map Signed.c) r.hints.els f ⟨e, 1⟩ left.els ∧ Enc.good p.1 p.2 ∧ (0 < p.2.addrs.len → n ≤ p.2.addrs.b)) (fun p => .tuple #[.agg (enc p.2).toArray, .bool true]) (fun p => p.1)) := by
  have hl : LenOk s := Nat.le_trans (nameOK_le hn) (by decide)
  obtain ⟨hen, hb⟩ := hostQ_some hK hn h
  refine T.enter (vs := [.agg (enc r).toArray, strV s, left.v]) (H := H) Tryd.func119 rfl rfl rfl hs ?_
  have h' := h
  unfold hostQ at h
  cases hf : followI (r.K.map Signed.c) 9 [] s 1 with
  | none => rw [hf] at h; cases h
  | some p =>
    obtain ⟨k, e'⟩ := p
    rw [hf] at h
    have he : e' = e := by
      simp only at h
      split at h
      · cases h
      · exact Option.some.inj h
    subst he
    obtain ⟨x, hx⟩ : ∃ x, getS r.K e' 1 = x := ⟨_, rfl⟩
    repeat (any_goals (first | refine T.seq ?_ | refine T.region ?_ | refine TL.nil ?_ | refine N.next ?_ | refine N.inBlock ?_ | refine N.exit_same ?_ | refine N.exit_then ?_ | refine N.ret_then ?_ | refine N.ret_block ?_ | (apply N.exit_other; rfl) | refine T.ret ?_ | refine T.skip ?_ | refine T.exit ?_ | refine T.block ?_ | (apply T.cond_true; rfl) | (apply T.cond_false; rfl) | (apply T.test; rfl; (with_reducible (first | exact Is.ndec | exact Is.dec | exact Is.not | ((fail_if_success exact Is.litT); (fail_if_success exact Is.litF); exact Is.base))); intro _; rotate_left; intro _; rotate_right) | (apply TL.skip; rfl; rfl; rfl) | (apply TL.skip_none; rfl; rfl) | (apply TL.x; rfl; rfl; (apply X.callO0 (f := 81) Tryd.call81; rfl; rfl; exact (fun _ hs => c_ifollowT hf hs.sat hr hK hl (by decide))); intro g hg) | (apply TL.callE (f := 82) [.agg (enc r).toArray, strV e', intV 1] Tryd.call82; rfl; rfl; rfl; rfl; (exact fun _ hs => c_isetV hx hb hs.sat hr)) | (apply TL.val; rfl; rfl; (apply V.build; rfl; rfl; rfl; rfl; rfl; rfl)) | (apply TL.x; rfl; rfl; (apply X.storeTo 0 (enc x); rfl; rfl; rfl; rfl; rfl; rfl; rfl; rfl; rfl; rfl); intro _ _) | (apply TL.x; rfl; rfl; (apply X.callFE (f := 84) [.agg (enc r).toArray, .agg (enc (⟨e', 1⟩ : Question)).toArray, left.v] Tryd.call84; rfl; rfl; rfl; exact (fun _ hs => hN ⟨e', 1⟩ left n _ _ (Nat.le_trans hnw hs.below.size) hs.sat hr hlg hf9 hen (show I64 1 by decide))); intro p hp) | (apply TL.x; rfl; rfl; (apply X.storeTo 2 (enc p.2); rfl; rfl; rfl; rfl; rfl; rfl; rfl; rfl; rfl; rfl); intro _ _) | (apply TL.val; rfl; rfl; (first | exact vpure | exact vread)) | (apply TL.x; rfl; rfl; (first | exact xgrow | exact xput); intro _ _) | (apply TL.guard; rfl; rfl; rfl; (with_reducible (first | exact Is.ndec | exact Is.dec | exact Is.not | ((fail_if_success exact Is.litT); (fail_if_success exact Is.litF); exact Is.base))); intro _; rotate_left; intro _; rotate_right)))
    all_goals (try contradiction)
    exact N.ret2 rfl (by (exact rvx)) (by (exact rvx)) fun w hst => ⟨p, hp.1, rfl, hst.fresh⟩
def IsNext (n : Nat) (H : Hp) (want : NextC) : Option Nxt → Prop
  | none => want = darkN
  | some x => x.c = want ∧ Enc.good H x ∧ (0 < x.addrs.len → n ≤ x.addrs.b)
def nxLL (rd : LoopState → Option Code → Loop) (b b3 b4 b5 b6 : Nat) (r : Res) (q : Question) (left : Slc Bytes) : Option Nxt → List Loc
  | none => [.any (b + 1) (.loop (rd .ready none)), .any b (.deferred (some [])), .blk b6 70 (enc nilX), .blk b5 59 [left.v], .blk b4 30 (enc q), .blk b3 118 (enc r)]
  | some x => [.any (b + 1) (.loop (rd .done (some .ret))), .any b (.deferred (some [])), .blk b6 70 (enc x), .blk b5 59 [left.v], .blk b4 30 (enc q), .blk b3 118 (enc r)]
theorem outside_find {K : List SignedC} {z : Bytes} {j : Nat} (hj : j < (hostsC K z).length) (h : ∀ i (hi : i < (hostsC K z).length), i < j → inN (hostsC K z)[i].text z = true) (hn : inN (hostsC K z)[j].text z = false) : outsideC K z = some (hostsC K z)[j].text := by
  unfold outsideC
  have : (hostsC K z).find? (fun h => !inN h.text z) = some (hostsC K z)[j] := by
    rw [List.find?_eq_some_iff_getElem]
    exact ⟨by rw [hn]; rfl, j, hj, rfl, fun i hi => by rw [h i (by omega) hi]; rfl⟩
  rw [this]; rfl
theorem outside_no {K : List SignedC} {z : Bytes} (h : ∀ i (hi : i < (hostsC K z).length), inN (hostsC K z)[i].text z = true) : outsideC K z = none := by
  unfold outsideC
  have : (hostsC K z).find? (fun h => !inN h.text z) = none := by
    rw [List.find?_eq_none]
    intro x hx
    obtain ⟨i, hi, rfl⟩ := List.mem_iff_getElem.1 hx
    rw [h i hi]; simp
  rw [this]; rfl
theorem host_name {K : List SignedC} (hK : knownOK K = true) {z : Bytes} {d : Datum} (hd : d ∈ hostsC K z) : nameOK d.text = true := by
  unfold hostsC at hd
  cases hf : findC K z 2 with
  | none => rw [hf] at hd; cases hd
  | some s =>
    rw [hf] at hd
    obtain ⟨h1, _, h3⟩ := mem_find hf
    exact (data_host (known_set hK h1) (.inl h3) hd).1
set_option maxHeartbeats 16000000 in
theorem c_inextUp (r : Res) (hK : knownOK (r.K.map Signed.c) = true) (hh : r.hints.len ≤ 1000) (f : Nat) (hN : ∀ left : Slc Bytes, left.len + (f + 1) = 9 → left.len < 8 → NextAt r f) : NextAt r (f + 1) := by
  intro q left n H w hnw hs hr hlg hf9 hqn hqt
  refine T.enterM (vs := [.agg (enc r).toArray, .agg (enc q).toArray, left.v]) (H := H) Tryd.func84 rfl rfl rfl hs ?_
  obtain ⟨want, hwant⟩ : ∃ x, nextI (r.K.map Signed.c) r.hints.els (f + 1) q left.els = x := ⟨_, rfl⟩
  obtain ⟨zs, hzs⟩ : ∃ x, zonesC (r.K.map Signed.c) q left.els = x := ⟨_, rfl⟩
  have hgo0 : goI (r.K.map Signed.c) r.hints.els (nextI (r.K.map Signed.c) r.hints.els f) q left.els zs = want := by rw [← hwant, ← hzs]; rfl
  have hll := hlg.len
  have hqg : Enc.good H q := ⟨Nat.le_trans (nameOK_le hqn) (by decide), hqt⟩
  unfold NextRet
  rw [hwant]
  repeat (any_goals (first | refine T.seq ?_ | refine T.region ?_ | (apply T.regionD wide; rfl) | refine TL.nil ?_ | refine N.next ?_ | refine N.inBlock ?_ | refine N.exit_same ?_ | refine N.exit_then ?_ | refine N.ret_then ?_ | refine N.ret_block ?_ | (apply N.exit_other; rfl) | refine T.ret ?_ | refine T.skip ?_ | refine T.exit ?_ | refine T.block ?_ | (apply T.cond_true; rfl) | (apply T.cond_false; rfl) | (apply T.test; rfl; (with_reducible (first | exact Is.ndec | exact Is.dec | exact Is.not | ((fail_if_success exact Is.litT); (fail_if_success exact Is.litF); exact Is.base))); intro _; rotate_left; intro _; rotate_right) | (apply TL.skip; rfl; rfl; rfl) | (apply TL.skip_none; rfl; rfl) | (apply GT.skip; rfl; rfl; rfl; decide +kernel) | (refine T.scope ?_) | (refine T.label ?_) | (apply TL.x; rfl; rfl; (apply X.callFE (f := 115) [.agg (enc r).toArray, .agg (enc q).toArray, left.v] Tryd.call115; rfl; rfl; rfl; exact (fun _ hs => c_izones r q left _ _ hs.sat)); rintro ⟨Hc, bq, br, bl⟩ ⟨⟨hp1, hp2, hp3⟩, hp0⟩) | (apply TL.val; rfl; rfl; (first | exact vpure | exact vread)) | (apply GT.pure; rfl; rfl; rfl; rfl; (first | exact vpure); decide +kernel) | (apply GT.read; rfl; rfl; rfl; rfl; (first | exact vpure | exact vread); decide +kernel) | (apply GT.done; decide +kernel; apply N.ofQ) | (apply GT.adv; rfl) | (apply TL.x; rfl; rfl; (first | exact xgrow | exact xput); intro _ _) | (apply GS.grow; rfl; rfl; (first | exact xgrow); intro _ _) | (apply GS.eff; rfl; decide +kernel; rfl; (first | exact xput); intro _ _) | (apply TL.guard; rfl; rfl; rfl; (with_reducible (first | exact Is.ndec | exact Is.dec | exact Is.not | ((fail_if_success exact Is.litT); (fail_if_success exact Is.litF); exact Is.base))); intro _; rotate_left; intro _; rotate_right) | (apply GT.guard; rfl; rfl; rfl; rfl; (with_reducible (first | exact Is.ndec | exact Is.dec | exact Is.not | ((fail_if_success exact Is.litT); (fail_if_success exact Is.litF); exact Is.base))); intro _; rotate_left; intro _; rotate_right) | (apply GT.fork1; decide +kernel) | (apply GT.fork2 1; decide +kernel) | (apply GT.fork2 2; decide +kernel) | (apply GT.fork2 3; decide +kernel) | (apply GT.fork2 4; decide +kernel) | (apply GT.fork2 5; decide +kernel) | (apply GT.fork2 6; decide +kernel) | (apply GT.fork2 7; decide +kernel) | (apply GT.fork2 8; decide +kernel) | (apply GT.fork2 9; decide +kernel) | (apply GT.fork2 10; decide +kernel) | (apply GT.fork2 11; decide +kernel) | (apply GT.fork2 12; decide +kernel) | (apply GT.fork2 13; decide +kernel) | (apply GT.fork2 14; decide +kernel) | (apply GT.fork2 15; decide +kernel) | (apply GT.fork2 16; decide +kernel) | (apply GT.fork2 17; decide +kernel) | (apply GT.fork2 18; decide +kernel) | (apply GT.fork2 19; decide +kernel) | (apply GT.fork2 20; decide +kernel) | (apply GT.fork2 21; decide +kernel) | (apply GT.fork2 22; decide +kernel) | (apply GT.fork2 23; decide +kernel)))
  rename_i b3 _ b4 _ b5 _ b6 _
  simp only at hp1 hp2 hp3 hp0
  refine T.rangeFunc (G := Hp × Option Nxt) (fun g => if g.2.isSome = true then .ret else .normal) (fun g => g.1) (fun g => [.blk b6 70 (enc (g.2.getD nilX)), .blk b5 59 [left.v], .blk b4 30 (enc q), .blk b3 118 (enc r)]) (fun g => IsNext n g.1 want g.2) rfl Tryd.call136 (fun g _ => by obtain ⟨_, _ | _⟩ := g <;> trivial) ?_ ?_
  · intro fn a b hf w1 hs1
    have hrc := Enc.mono hp0 hr
    have hlc := hlg.mono hp0
    refine (c_izones1 r q left bq br bl hp1 hp2 hp3 hrc hlc hqn (G := Hp × Option Nxt) (fun k g => g.2 = none ∧ Hc.le g.1 ∧ goI (r.K.map Signed.c) r.hints.els (nextI (r.K.map Signed.c) r.hints.els f) q left.els (zs.drop k) = want) (fun g => ∃ x, g.2 = some x ∧ x.c = want ∧ Enc.good g.1 x ∧ (0 < x.addrs.len → n ≤ x.addrs.b)) (fun g => g.1) (fun g => nxLL (recd fn a.tmps _ _ _ b) b b3 b4 b5 b6 r q left g.2) (fun k g h => h.2.1) ?_ (Hc, none) ⟨rfl, .refl _, hgo0⟩ hs1).mono ?_
    · rintro k ⟨Hg, o⟩ ⟨rfl, hle, hgo⟩ hk E w2 hs2
      simp only at hle hgo hs2
      have hkz : k < zs.length := by rw [← hzs]; exact hk
      obtain ⟨z, hz⟩ : ∃ z, zs[k] = z := ⟨_, rfl⟩
      have hzz : (zonesC (r.K.map Signed.c) q left.els)[k] = z := by rw [← hz]; simp only [hzs]
      rw [hzz]
      have hzn : nameOK z = true := by
        have h1 : z ∈ zonesC (r.K.map Signed.c) q left.els := hzz ▸ List.getElem_mem hk
        exact (aboveC_mem hqn (List.mem_filter.1 h1).1).1
      have hzl : LenOk z := Nat.le_trans (nameOK_le hzn) (by decide)
      rw [List.drop_eq_getElem_cons hkz, hz] at hgo
      have hrg := Enc.mono hle hrc
      have hlgg := hlc.mono hle
      have hqgg : Enc.good Hg q := Enc.mono (hp0.trans hle) hqg
      refine yieldAt_of (i := 0) hs2 rfl rfl _ (Fr.round1 hf rfl) (env₁ := [(3, .pointer (some ⟨b3, 0, none⟩)), (4, .pointer (some ⟨b4, 0, none⟩)), (5, .pointer (some ⟨b5, 0, none⟩)), (6, .pointer (some ⟨b6, 0, none⟩)), (7, strV z)]) ?_ ?_
      · repeat (any_goals (first | refine T.seq ?_ | refine T.region ?_ | (apply T.regionD wide; rfl) | refine TL.nil ?_ | refine N.next ?_ | refine N.inBlock ?_ | refine N.exit_same ?_ | refine N.exit_then ?_ | refine N.ret_then ?_ | refine N.ret_block ?_ | (apply N.exit_other; rfl) | refine T.ret ?_ | refine T.skip ?_ | refine T.exit ?_ | refine T.block ?_ | (apply T.cond_true; rfl) | (apply T.cond_false; rfl) | (apply T.test; rfl; (with_reducible (first | exact Is.ndec | exact Is.dec | exact Is.not | ((fail_if_success exact Is.litT); (fail_if_success exact Is.litF); exact Is.base))); intro _; rotate_left; intro _; rotate_right) | (apply TL.skip; rfl; rfl; rfl) | (apply TL.skip_none; rfl; rfl) | (apply GT.skip; rfl; rfl; rfl; decide +kernel) | (apply TL.val; rfl; rfl; (first | exact vpure | exact vread)) | (apply GT.pure; rfl; rfl; rfl; rfl; (first | exact vpure); decide +kernel) | (apply GT.read; rfl; rfl; rfl; rfl; (first | exact vpure | exact vread); decide +kernel) | (apply GT.done; decide +kernel; apply N.ofQ) | (apply GT.adv; rfl) | (apply TL.x; rfl; rfl; (first | exact xgrow | exact xput); intro _ _) | (apply GS.grow; rfl; rfl; (first | exact xgrow); intro _ _) | (apply GS.eff; rfl; decide +kernel; rfl; (first | exact xput); intro _ _) | (apply TL.guard; rfl; rfl; rfl; (with_reducible (first | exact Is.ndec | exact Is.dec | exact Is.not | ((fail_if_success exact Is.litT); (fail_if_success exact Is.litF); exact Is.base))); intro _; rotate_left; intro _; rotate_right) | (apply GT.guard; rfl; rfl; rfl; rfl; (with_reducible (first | exact Is.ndec | exact Is.dec | exact Is.not | ((fail_if_success exact Is.litT); (fail_if_success exact Is.litF); exact Is.base))); intro _; rotate_left; intro _; rotate_right) | (apply GT.fork1; decide +kernel) | (apply GT.fork2 1; decide +kernel) | (apply GT.fork2 2; decide +kernel) | (apply GT.fork2 3; decide +kernel) | (apply GT.fork2 4; decide +kernel) | (apply GT.fork2 5; decide +kernel) | (apply GT.fork2 6; decide +kernel) | (apply GT.fork2 7; decide +kernel) | (apply GT.fork2 8; decide +kernel) | (apply GT.fork2 9; decide +kernel) | (apply GT.fork2 10; decide +kernel) | (apply GT.fork2 11; decide +kernel) | (apply GT.fork2 12; decide +kernel) | (apply GT.fork2 13; decide +kernel) | (apply GT.fork2 14; decide +kernel) | (apply GT.fork2 15; decide +kernel) | (apply GT.fork2 16; decide +kernel) | (apply GT.fork2 17; decide +kernel) | (apply GT.fork2 18; decide +kernel) | (apply GT.fork2 19; decide +kernel) | (apply GT.fork2 20; decide +kernel) | (apply GT.fork2 21; decide +kernel) | (apply GT.fork2 22; decide +kernel) | (apply GT.fork2 23; decide +kernel)))
        exact N.both (by (repeat (first | exact True.intro | refine ⟨rfl, ?_⟩ | refine Sub.int rfl (by omega) ?_)))
      · simp only [nxLL, List.cons_append, List.nil_append, List.set_cons_zero]
        by_cases hA : addrsI (r.K.map Signed.c) r.hints.els z = []
        rotate_left
        · rw [goI, if_pos hA] at hgo
          repeat (any_goals (first | refine T.seq ?_ | refine T.region ?_ | (apply T.regionD wide; rfl) | refine TL.nil ?_ | refine N.next ?_ | refine N.inBlock ?_ | refine N.exit_same ?_ | refine N.exit_then ?_ | refine N.ret_then ?_ | refine N.ret_block ?_ | (apply N.exit_other; rfl) | refine T.ret ?_ | refine T.skip ?_ | refine T.exit ?_ | refine T.block ?_ | (apply T.cond_true; rfl) | (apply T.cond_false; rfl) | (apply T.test; rfl; (with_reducible (first | exact Is.ndec | exact Is.dec | exact Is.not | ((fail_if_success exact Is.litT); (fail_if_success exact Is.litF); exact Is.base))); intro _; rotate_left; intro _; rotate_right) | (apply TL.skip; rfl; rfl; rfl) | (apply TL.skip_none; rfl; rfl) | (apply GT.skip; rfl; rfl; rfl; decide +kernel) | (apply TL.x; rfl; rfl; (apply X.callFE (f := 116) [.agg (enc r).toArray, strV z] Tryd.call116; rfl; rfl; rfl; exact (fun _ hs => c_iaddrs r z _ _ n (Nat.le_trans hnw hs.below.size) hs.sat hrg hK hh)); intro pa hpa; have hqp := Enc.mono hpa.2 hqgg; have hpl := hpa.1.2.1.len; rw [hpa.1.1] at hpl; have hpl2 := List.length_pos_iff.2 hA) | (apply TL.val; rfl; rfl; (apply V.build; rfl; rfl; rfl; rfl; rfl; rfl)) | (apply GT.pure; rfl; rfl; rfl; rfl; (apply V.build; rfl; rfl; rfl; rfl; rfl; rfl); decide +kernel) | (apply GT.read; rfl; rfl; rfl; rfl; (apply V.build; rfl; rfl; rfl; rfl; rfl; rfl); decide +kernel) | (apply TL.x; rfl; rfl; (apply X.storeTo 2 (enc (⟨1, z, pa.2, q, Slc.nil _⟩ : Nxt)); rfl; rfl; rfl; rfl; rfl; rfl; rfl; rfl; rfl; rfl); intro _ _) | (apply GS.eff; rfl; decide +kernel; rfl; (apply X.storeTo 2 (enc (⟨1, z, pa.2, q, Slc.nil _⟩ : Nxt)); rfl; rfl; rfl; rfl; rfl; rfl; rfl; rfl; rfl; rfl); intro _ _) | (apply TL.val; rfl; rfl; (first | exact vpure | exact vread)) | (apply GT.pure; rfl; rfl; rfl; rfl; (first | exact vpure); decide +kernel) | (apply GT.read; rfl; rfl; rfl; rfl; (first | exact vpure | exact vread); decide +kernel) | (apply GT.done; decide +kernel; apply N.ofQ) | (apply GT.adv; rfl) | (apply TL.x; rfl; rfl; (first | exact xgrow | exact xput); intro _ _) | (apply GS.grow; rfl; rfl; (first | exact xgrow); intro _ _) | (apply GS.eff; rfl; decide +kernel; rfl; (first | exact xput); intro _ _) | (apply TL.guard; rfl; rfl; rfl; (with_reducible (first | exact Is.ndec | exact Is.dec | exact Is.not | ((fail_if_success exact Is.litT); (fail_if_success exact Is.litF); exact Is.base))); intro _; rotate_left; intro _; rotate_right) | (apply GT.guard; rfl; rfl; rfl; rfl; (with_reducible (first | exact Is.ndec | exact Is.dec | exact Is.not | ((fail_if_success exact Is.litT); (fail_if_success exact Is.litF); exact Is.base))); intro _; rotate_left; intro _; rotate_right) | (apply GT.fork1; decide +kernel) | (apply GT.fork2 1; decide +kernel) | (apply GT.fork2 2; decide +kernel) | (apply GT.fork2 3; decide +kernel) | (apply GT.fork2 4; decide +kernel) | (apply GT.fork2 5; decide +kernel) | (apply GT.fork2 6; decide +kernel) | (apply GT.fork2 7; decide +kernel) | (apply GT.fork2 8; decide +kernel) | (apply GT.fork2 9; decide +kernel) | (apply GT.fork2 10; decide +kernel) | (apply GT.fork2 11; decide +kernel) | (apply GT.fork2 12; decide +kernel) | (apply GT.fork2 13; decide +kernel) | (apply GT.fork2 14; decide +kernel) | (apply GT.fork2 15; decide +kernel) | (apply GT.fork2 16; decide +kernel) | (apply GT.fork2 17; decide +kernel) | (apply GT.fork2 18; decide +kernel) | (apply GT.fork2 19; decide +kernel) | (apply GT.fork2 20; decide +kernel) | (apply GT.fork2 21; decide +kernel) | (apply GT.fork2 22; decide +kernel) | (apply GT.fork2 23; decide +kernel)))
          all_goals (try (exfalso; omega))
          refine N.round_out (i := 0) (e := .ret) trivial rfl fun w hs => ⟨false, (pa.1, some ⟨1, z, pa.2, q, Slc.nil _⟩), rfl, ?_, hs⟩
          rw [if_neg (by simp)]
          refine ⟨_, rfl, ?_, ⟨show I64 1 by decide, hzl, hpa.1.2.1, hqp, Slc.nil_good⟩, hpa.1.2.2⟩
          rw [← hgo]
          unfold Nxt.c
          rw [hpa.1.1]; rfl
        · rw [goI, if_neg (by rw [hA]; simp)] at hgo
          by_cases h8 : 8 ≤ left.len
          · rw [if_pos (by rw [hll]; exact h8)] at hgo
            repeat (any_goals (first | refine T.seq ?_ | refine T.region ?_ | (apply T.regionD wide; rfl) | refine TL.nil ?_ | refine N.next ?_ | refine N.inBlock ?_ | refine N.exit_same ?_ | refine N.exit_then ?_ | refine N.ret_then ?_ | refine N.ret_block ?_ | (apply N.exit_other; rfl) | refine T.ret ?_ | refine T.skip ?_ | refine T.exit ?_ | refine T.block ?_ | (apply T.cond_true; rfl) | (apply T.cond_false; rfl) | (apply T.test; rfl; (with_reducible (first | exact Is.ndec | exact Is.dec | exact Is.not | ((fail_if_success exact Is.litT); (fail_if_success exact Is.litF); exact Is.base))); intro _; rotate_left; intro _; rotate_right) | (apply TL.skip; rfl; rfl; rfl) | (apply TL.skip_none; rfl; rfl) | (apply GT.skip; rfl; rfl; rfl; decide +kernel) | (apply TL.x; rfl; rfl; (apply X.callFE (f := 116) [.agg (enc r).toArray, strV z] Tryd.call116; rfl; rfl; rfl; exact (fun _ hs => c_iaddrs r z _ _ n (Nat.le_trans hnw hs.below.size) hs.sat hrg hK hh)); intro pa hpa; have hpl := hpa.1.2.1.len; rw [hpa.1.1, hA] at hpl; simp at hpl) | (apply TL.val; rfl; rfl; (first | exact vpure | exact vread)) | (apply GT.pure; rfl; rfl; rfl; rfl; (first | exact vpure); decide +kernel) | (apply GT.read; rfl; rfl; rfl; rfl; (first | exact vpure | exact vread); decide +kernel) | (apply GT.done; decide +kernel; apply N.ofQ) | (apply GT.adv; rfl) | (apply TL.x; rfl; rfl; (first | exact xgrow | exact xput); intro _ _) | (apply GS.grow; rfl; rfl; (first | exact xgrow); intro _ _) | (apply GS.eff; rfl; decide +kernel; rfl; (first | exact xput); intro _ _) | (apply TL.guard; rfl; rfl; rfl; (with_reducible (first | exact Is.ndec | exact Is.dec | exact Is.not | ((fail_if_success exact Is.litT); (fail_if_success exact Is.litF); exact Is.base))); intro _; rotate_left; intro _; rotate_right) | (apply GT.guard; rfl; rfl; rfl; rfl; (with_reducible (first | exact Is.ndec | exact Is.dec | exact Is.not | ((fail_if_success exact Is.litT); (fail_if_success exact Is.litF); exact Is.base))); intro _; rotate_left; intro _; rotate_right) | (apply GT.fork1; decide +kernel) | (apply GT.fork2 1; decide +kernel) | (apply GT.fork2 2; decide +kernel) | (apply GT.fork2 3; decide +kernel) | (apply GT.fork2 4; decide +kernel) | (apply GT.fork2 5; decide +kernel) | (apply GT.fork2 6; decide +kernel) | (apply GT.fork2 7; decide +kernel) | (apply GT.fork2 8; decide +kernel) | (apply GT.fork2 9; decide +kernel) | (apply GT.fork2 10; decide +kernel) | (apply GT.fork2 11; decide +kernel) | (apply GT.fork2 12; decide +kernel) | (apply GT.fork2 13; decide +kernel) | (apply GT.fork2 14; decide +kernel) | (apply GT.fork2 15; decide +kernel) | (apply GT.fork2 16; decide +kernel) | (apply GT.fork2 17; decide +kernel) | (apply GT.fork2 18; decide +kernel) | (apply GT.fork2 19; decide +kernel) | (apply GT.fork2 20; decide +kernel) | (apply GT.fork2 21; decide +kernel) | (apply GT.fork2 22; decide +kernel) | (apply GT.fork2 23; decide +kernel)))
            all_goals (try (exfalso; omega))
            refine N.round_out (i := 0) (e := .normal) trivial rfl fun w hs => ⟨true, (pa.1, none), rfl, ?_, hs⟩
            rw [if_pos rfl]
            exact ⟨rfl, hle.trans hpa.2, hgo⟩
          · rw [if_neg (by rw [hll]; exact h8)] at hgo
            obtain ⟨sv, hsv⟩ : ∃ x, getS r.K z 2 = x := ⟨_, rfl⟩
            have hhost : hostsC (r.K.map Signed.c) z = sv.set.data.els := by rw [hosts_S, hsv]
            have hsg : Enc.good Hg sv := hsv ▸ getS_good hrg z 2
            have hsl := hsg.1.2.2.2.len
            have hout := fun (j : Nat) (hj : j < sv.set.data.els.length) (h : ∀ i (hi : i < sv.set.data.els.length), i < j → inN (sv.set.data.els[i]).text z = true) (hn : inN (sv.set.data.els[j]).text z = false) => outside_find (K := r.K.map Signed.c) (z := z) (j := j) (by rw [hhost]; exact hj) (by simp only [hhost]; exact h) (by simp only [hhost]; exact hn)
            simp only [hhost] at hout
            repeat (any_goals (first | refine T.seq ?_ | refine T.region ?_ | (apply T.regionD wide; rfl) | refine TL.nil ?_ | refine N.next ?_ | refine N.inBlock ?_ | refine N.exit_same ?_ | refine N.exit_then ?_ | refine N.ret_then ?_ | refine N.ret_block ?_ | (apply N.exit_other; rfl) | refine T.ret ?_ | refine T.skip ?_ | refine T.exit ?_ | refine T.block ?_ | (apply T.cond_true; rfl) | (apply T.cond_false; rfl) | (apply T.test; rfl; (with_reducible (first | exact Is.ndec | exact Is.dec | exact Is.not | ((fail_if_success exact Is.litT); (fail_if_success exact Is.litF); exact Is.base))); intro _; rotate_left; intro _; rotate_right) | (apply TL.skip; rfl; rfl; rfl) | (apply TL.skip_none; rfl; rfl) | (apply GT.skip; rfl; rfl; rfl; decide +kernel) | (apply TL.x; rfl; rfl; (apply X.callFE (f := 116) [.agg (enc r).toArray, strV z] Tryd.call116; rfl; rfl; rfl; exact (fun _ hs => c_iaddrs r z _ _ n (Nat.le_trans hnw hs.below.size) hs.sat hrg hK hh)); intro pa hpa; have hpl := hpa.1.2.1.len; rw [hpa.1.1, hA] at hpl; simp at hpl; have hrp := Enc.mono hpa.2 hrg) | (apply TL.callE (f := 117) [.agg (enc r).toArray, strV z] Tryd.call117; rfl; rfl; rfl; rfl; (exact fun _ hs => hsv ▸ c_ihosts r z _ _ hs.sat hrp)) | (apply GT.callE (f := 117) [.agg (enc r).toArray, strV z] Tryd.call117; rfl; rfl; rfl; rfl; rfl; rfl; (exact fun _ hs => hsv ▸ c_ihosts r z _ _ hs.sat hrp); decide +kernel) | (apply TL.val; rfl; rfl; (first | exact vpure | exact vread)) | (apply GT.pure; rfl; rfl; rfl; rfl; (first | exact vpure); decide +kernel) | (apply GT.read; rfl; rfl; rfl; rfl; (first | exact vpure | exact vread); decide +kernel) | (apply GT.done; decide +kernel; apply N.ofQ) | (apply GT.adv; rfl) | (apply TL.x; rfl; rfl; (first | exact xgrow | exact xput); intro _ _) | (apply GS.grow; rfl; rfl; (first | exact xgrow); intro _ _) | (apply GS.eff; rfl; decide +kernel; rfl; (first | exact xput); intro _ _) | (apply TL.guard; rfl; rfl; rfl; (with_reducible (first | exact Is.ndec | exact Is.dec | exact Is.not | ((fail_if_success exact Is.litT); (fail_if_success exact Is.litF); exact Is.base))); intro _; rotate_left; intro _; rotate_right) | (apply GT.guard; rfl; rfl; rfl; rfl; (with_reducible (first | exact Is.ndec | exact Is.dec | exact Is.not | ((fail_if_success exact Is.litT); (fail_if_success exact Is.litF); exact Is.base))); intro _; rotate_left; intro _; rotate_right) | (apply GT.fork1; decide +kernel) | (apply GT.fork2 1; decide +kernel) | (apply GT.fork2 2; decide +kernel) | (apply GT.fork2 3; decide +kernel) | (apply GT.fork2 4; decide +kernel) | (apply GT.fork2 5; decide +kernel) | (apply GT.fork2 6; decide +kernel) | (apply GT.fork2 7; decide +kernel) | (apply GT.fork2 8; decide +kernel) | (apply GT.fork2 9; decide +kernel) | (apply GT.fork2 10; decide +kernel) | (apply GT.fork2 11; decide +kernel) | (apply GT.fork2 12; decide +kernel) | (apply GT.fork2 13; decide +kernel) | (apply GT.fork2 14; decide +kernel) | (apply GT.fork2 15; decide +kernel) | (apply GT.fork2 16; decide +kernel) | (apply GT.fork2 17; decide +kernel) | (apply GT.fork2 18; decide +kernel) | (apply GT.fork2 19; decide +kernel) | (apply GT.fork2 20; decide +kernel) | (apply GT.fork2 21; decide +kernel) | (apply GT.fork2 22; decide +kernel) | (apply GT.fork2 23; decide +kernel)))
            all_goals (try (exfalso; omega))
            have hsgp := Enc.mono hpa.2 hsg
            have hsgd := hsgp.1.2.2.2
            have hslim := hsgd.lim
            have hlgp := hlgg.mono hpa.2
            refine T.loop (G := Nat) (fun j => [(3, .pointer (some ⟨b3, 0, none⟩)), (4, .pointer (some ⟨b4, 0, none⟩)), (5, .pointer (some ⟨b5, 0, none⟩)), (6, .pointer (some ⟨b6, 0, none⟩)), (7, strV z), (33, sv.set.data.v), (34, intV sv.set.data.len), (35, intV j)]) (fun _ => pa.1) (fun _ => .any (b + 1) (.loop (recd fn a.tmps _ _ _ b .busy none)) :: .any b (.deferred (some [])) :: .blk b6 70 (enc nilX) :: .blk b5 59 [left.v] :: .blk b4 30 (enc q) :: .blk b3 118 (enc r) :: E) (fun j => j ≤ sv.set.data.len ∧ ∀ i (hi : i < sv.set.data.els.length), i < j → inN (sv.set.data.els[i]).text z = true) (fun j => sv.set.data.len - j) 0 ⟨Nat.zero_le _, fun i _ h => by omega⟩ (by (repeat (first | exact True.intro | refine ⟨rfl, ?_⟩ | refine Sub.int rfl (by omega) ?_))) rfl (List.Sublist.refl _) ?_
            rintro j ⟨hj, hrel⟩
            by_cases hlt : j < sv.set.data.len
            · have hjl : j < sv.set.data.els.length := by omega
              have hdm : (sv.set.data.els[j]'hjl) ∈ hostsC (r.K.map Signed.c) z := by rw [hhost]; exact List.getElem_mem hjl
              have hdn : nameOK (sv.set.data.els[j]'hjl).text = true := host_name hK hdm
              obtain ⟨bv, hbv⟩ : ∃ x, inN (sv.set.data.els[j]'hjl).text z = x := ⟨_, rfl⟩
              cases bv with
              | true =>
                repeat (any_goals (first | refine T.seq ?_ | refine T.region ?_ | (apply T.regionD wide; rfl) | refine TL.nil ?_ | refine N.next ?_ | refine N.inBlock ?_ | refine N.exit_same ?_ | refine N.exit_then ?_ | refine N.ret_then ?_ | refine N.ret_block ?_ | (apply N.exit_other; rfl) | refine T.ret ?_ | refine T.skip ?_ | refine T.exit ?_ | refine T.block ?_ | (apply T.cond_true; rfl) | (apply T.cond_false; rfl) | (apply T.test; rfl; (with_reducible (first | exact Is.ndec | exact Is.dec | exact Is.not | ((fail_if_success exact Is.litT); (fail_if_success exact Is.litF); exact Is.base))); intro _; rotate_left; intro _; rotate_right) | (apply TL.skip; rfl; rfl; rfl) | (apply TL.skip_none; rfl; rfl) | (apply GT.skip; rfl; rfl; rfl; decide +kernel) | (apply TL.x; rfl; rfl; (apply X.storeTo 0 (enc (sv.set.data.els[j]'hjl)); rfl; rfl; rfl; rfl; rfl; rfl; rfl; rfl; rfl; rfl); intro _ _) | (apply GS.eff; rfl; decide +kernel; rfl; (apply X.storeTo 0 (enc (sv.set.data.els[j]'hjl)); rfl; rfl; rfl; rfl; rfl; rfl; rfl; rfl; rfl; rfl); intro _ _) | (apply TL.callE (f := 118) [strV (sv.set.data.els[j]'hjl).text, strV z] Tryd.call118; rfl; rfl; rfl; rfl; (exact fun _ hs => hbv ▸ c_under28 (sv.set.data.els[j]'hjl).text z _ _ hs.sat hdn hzn)) | (apply GT.callE (f := 118) [strV (sv.set.data.els[j]'hjl).text, strV z] Tryd.call118; rfl; rfl; rfl; rfl; rfl; rfl; (exact fun _ hs => hbv ▸ c_under28 (sv.set.data.els[j]'hjl).text z _ _ hs.sat hdn hzn); decide +kernel) | (apply TL.val; rfl; rfl; (first | exact vpure | exact vread)) | (apply GT.pure; rfl; rfl; rfl; rfl; (first | exact vpure); decide +kernel) | (apply GT.read; rfl; rfl; rfl; rfl; (first | exact vpure | exact vread); decide +kernel) | (apply GT.done; decide +kernel; apply N.ofQ) | (apply GT.adv; rfl) | (apply TL.x; rfl; rfl; (first | exact xgrow | exact xput); intro _ _) | (apply GS.grow; rfl; rfl; (first | exact xgrow); intro _ _) | (apply GS.eff; rfl; decide +kernel; rfl; (first | exact xput); intro _ _) | (apply TL.guard; rfl; rfl; rfl; (with_reducible (first | exact Is.ndec | exact Is.dec | exact Is.not | ((fail_if_success exact Is.litT); (fail_if_success exact Is.litF); exact Is.base))); intro _; rotate_left; intro _; rotate_right) | (apply GT.guard; rfl; rfl; rfl; rfl; (with_reducible (first | exact Is.ndec | exact Is.dec | exact Is.not | ((fail_if_success exact Is.litT); (fail_if_success exact Is.litF); exact Is.base))); intro _; rotate_left; intro _; rotate_right) | (apply GT.fork1; decide +kernel) | (apply GT.fork2 1; decide +kernel) | (apply GT.fork2 2; decide +kernel) | (apply GT.fork2 3; decide +kernel) | (apply GT.fork2 4; decide +kernel) | (apply GT.fork2 5; decide +kernel) | (apply GT.fork2 6; decide +kernel) | (apply GT.fork2 7; decide +kernel) | (apply GT.fork2 8; decide +kernel) | (apply GT.fork2 9; decide +kernel) | (apply GT.fork2 10; decide +kernel) | (apply GT.fork2 11; decide +kernel) | (apply GT.fork2 12; decide +kernel) | (apply GT.fork2 13; decide +kernel) | (apply GT.fork2 14; decide +kernel) | (apply GT.fork2 15; decide +kernel) | (apply GT.fork2 16; decide +kernel) | (apply GT.fork2 17; decide +kernel) | (apply GT.fork2 18; decide +kernel) | (apply GT.fork2 19; decide +kernel) | (apply GT.fork2 20; decide +kernel) | (apply GT.fork2 21; decide +kernel) | (apply GT.fork2 22; decide +kernel) | (apply GT.fork2 23; decide +kernel)))
                all_goals (try contradiction)
                all_goals (try (exfalso; omega))
                refine N.round (j + 1) ⟨by omega, fun i hi hij => ?_⟩ (by show sv.set.data.len - (j + 1) < sv.set.data.len - j; omega) (by (repeat (first | exact True.intro | refine ⟨rfl, ?_⟩ | refine Sub.int rfl (by omega) ?_))) rfl (List.Sublist.cons _ (List.Sublist.refl _))
                by_cases e : i = j
                · subst e; exact hbv
                · exact hrel i hi (by omega)
              | false =>
                have hof := hout j hjl hrel hbv
                rw [hof] at hgo
                simp only at hgo
                have hdl : LenOk (sv.set.data.els[j]'hjl).text := Nat.le_trans (nameOK_le hdn) (by decide)
                have hslg : (⟨left.A, left.len, left.len, left.els⟩ : Slc Bytes).Good pa.1 := ⟨hlgp.len, Nat.le_refl _, hlgp.lim, hlgp.at_, hlgp.cells, hlgp.els⟩
                have hgz : ∀ y ∈ left.els ++ [z], Enc.good pa.1 y := fun y hy => by
                  rcases List.mem_append.1 hy with hy | hy
                  · exact hlgp.els y hy
                  · rw [List.mem_singleton] at hy; rw [hy]; exact hzl
                cases hq : hostQ (r.K.map Signed.c) (sv.set.data.els[j]'hjl).text with
                | none =>
                  rw [hq] at hgo
                  repeat (any_goals (first | refine T.seq ?_ | refine T.region ?_ | (apply T.regionD wide; rfl) | refine TL.nil ?_ | refine N.next ?_ | refine N.inBlock ?_ | refine N.exit_same ?_ | refine N.exit_then ?_ | refine N.ret_then ?_ | refine N.ret_block ?_ | (apply N.exit_other; rfl) | refine T.ret ?_ | refine T.skip ?_ | refine T.exit ?_ | refine T.block ?_ | (apply T.cond_true; rfl) | (apply T.cond_false; rfl) | (apply T.test; rfl; (with_reducible (first | exact Is.ndec | exact Is.dec | exact Is.not | ((fail_if_success exact Is.litT); (fail_if_success exact Is.litF); exact Is.base))); intro _; rotate_left; intro _; rotate_right) | (apply TL.skip; rfl; rfl; rfl) | (apply TL.skip_none; rfl; rfl) | (apply GT.skip; rfl; rfl; rfl; decide +kernel) | (apply TL.x; rfl; rfl; (apply X.storeTo 0 (enc (sv.set.data.els[j]'hjl)); rfl; rfl; rfl; rfl; rfl; rfl; rfl; rfl; rfl; rfl); intro _ _) | (apply GS.eff; rfl; decide +kernel; rfl; (apply X.storeTo 0 (enc (sv.set.data.els[j]'hjl)); rfl; rfl; rfl; rfl; rfl; rfl; rfl; rfl; rfl; rfl); intro _ _) | (apply TL.callE (f := 118) [strV (sv.set.data.els[j]'hjl).text, strV z] Tryd.call118; rfl; rfl; rfl; rfl; (exact fun _ hs => hbv ▸ c_under28 (sv.set.data.els[j]'hjl).text z _ _ hs.sat hdn hzn)) | (apply GT.callE (f := 118) [strV (sv.set.data.els[j]'hjl).text, strV z] Tryd.call118; rfl; rfl; rfl; rfl; rfl; rfl; (exact fun _ hs => hbv ▸ c_under28 (sv.set.data.els[j]'hjl).text z _ _ hs.sat hdn hzn); decide +kernel) | (apply TL.val; rfl; rfl; (apply V.sliceHM left.len left.len; rfl; rfl; rfl; rfl; rfl; rfl; rfl; rfl; exact Nat.le_refl _; exact hlgp.cap)) | (apply GT.pure; rfl; rfl; rfl; rfl; (apply V.sliceHM left.len left.len; rfl; rfl; rfl; rfl; rfl; rfl; rfl; rfl; exact Nat.le_refl _; exact hlgp.cap); decide +kernel) | (apply GT.read; rfl; rfl; rfl; rfl; (apply V.sliceHM left.len left.len; rfl; rfl; rfl; rfl; rfl; rfl; rfl; rfl; exact Nat.le_refl _; exact hlgp.cap); decide +kernel) | (apply GS.grow; rfl; rfl; (apply X.appendOn (⟨left.A, left.len, left.len, left.els⟩ : Slc Bytes); rfl; rfl; rfl; rfl; rfl; rfl; rfl; rfl; exact lmem; rfl; exact hslg; rfl; decide; (refine Nat.le_trans (Nat.mul_le_mul_left _ (show _ ≤ 1000 by decide)) ?_; show (left.len + 1) * 1000 ≤ _; omega); (show left.len + 1 ≤ maxLen; unfold maxLen; omega)); intro p3 _; apply GT.frzRow 0 (left.els ++ [z]); rfl; rfl; exact (encs_snoc left.els z).symm; (rw [List.length_append, hll]; rfl); exact hgz; intro H5 s5 e5 e6 hg5 hle5; have hs5l : s5.len = left.len + 1 := (by have := hg5.len; rw [e6, List.length_append, hll] at this; exact this.symm)) | (apply GS.grow; rfl; rfl; (apply X.callRE (f := 119) [.agg (enc r).toArray, strV (sv.set.data.els[j]'hjl).text, .slice (some ⟨p3.1, 0, none⟩) (left.len + 1) p3.2] Tryd.call119; rfl; rfl; rfl; exact (fun _ hs => by have h := c_ihostN s5 hq hs.sat (Enc.mono hle5 hrp) hK hdl; rw [e5] at h; exact h)); intro _ _) | (apply TL.x; rfl; rfl; (apply X.storeTo 0 (enc nilX); rfl; rfl; rfl; rfl; rfl; rfl; rfl; rfl; rfl; rfl); intro _ _) | (apply GS.eff; rfl; decide +kernel; rfl; (apply X.storeTo 0 (enc nilX); rfl; rfl; rfl; rfl; rfl; rfl; rfl; rfl; rfl; rfl); intro _ _) | (apply TL.x; rfl; rfl; (apply X.storeTo 1 (enc nilX); rfl; rfl; rfl; rfl; rfl; rfl; rfl; rfl; rfl; rfl); intro _ _) | (apply GS.eff; rfl; decide +kernel; rfl; (apply X.storeTo 1 (enc nilX); rfl; rfl; rfl; rfl; rfl; rfl; rfl; rfl; rfl; rfl); intro _ _) | (apply TL.val; rfl; rfl; (first | exact vpure | exact vread)) | (apply GT.pure; rfl; rfl; rfl; rfl; (first | exact vpure); decide +kernel) | (apply GT.read; rfl; rfl; rfl; rfl; (first | exact vpure | exact vread); decide +kernel) | (apply GT.done; decide +kernel; apply N.ofQ) | (apply GT.adv; rfl) | (apply TL.x; rfl; rfl; (first | exact xgrow | exact xput); intro _ _) | (apply GS.grow; rfl; rfl; (first | exact xgrow); intro _ _) | (apply GS.eff; rfl; decide +kernel; rfl; (first | exact xput); intro _ _) | (apply TL.guard; rfl; rfl; rfl; (with_reducible (first | exact Is.ndec | exact Is.dec | exact Is.not | ((fail_if_success exact Is.litT); (fail_if_success exact Is.litF); exact Is.base))); intro _; rotate_left; intro _; rotate_right) | (apply GT.guard; rfl; rfl; rfl; rfl; (with_reducible (first | exact Is.ndec | exact Is.dec | exact Is.not | ((fail_if_success exact Is.litT); (fail_if_success exact Is.litF); exact Is.base))); intro _; rotate_left; intro _; rotate_right) | (apply GT.fork1; decide +kernel) | (apply GT.fork2 1; decide +kernel) | (apply GT.fork2 2; decide +kernel) | (apply GT.fork2 3; decide +kernel) | (apply GT.fork2 4; decide +kernel) | (apply GT.fork2 5; decide +kernel) | (apply GT.fork2 6; decide +kernel) | (apply GT.fork2 7; decide +kernel) | (apply GT.fork2 8; decide +kernel) | (apply GT.fork2 9; decide +kernel) | (apply GT.fork2 10; decide +kernel) | (apply GT.fork2 11; decide +kernel) | (apply GT.fork2 12; decide +kernel) | (apply GT.fork2 13; decide +kernel) | (apply GT.fork2 14; decide +kernel) | (apply GT.fork2 15; decide +kernel) | (apply GT.fork2 16; decide +kernel) | (apply GT.fork2 17; decide +kernel) | (apply GT.fork2 18; decide +kernel) | (apply GT.fork2 19; decide +kernel) | (apply GT.fork2 20; decide +kernel) | (apply GT.fork2 21; decide +kernel) | (apply GT.fork2 22; decide +kernel) | (apply GT.fork2 23; decide +kernel)))
                  all_goals (try contradiction)
                  all_goals (try (exfalso; omega))
                  all_goals
                    refine N.round_out (i := 3) (e := .normal) trivial rfl fun w hs => ⟨true, (H5, none), rfl, ?_, hs.sub (List.Sublist.cons _ (List.Sublist.cons _ (List.Sublist.cons _ (List.Sublist.refl _))))⟩
                    rw [if_pos rfl]
                    exact ⟨rfl, (hle.trans hpa.2).trans hle5, hgo⟩
                | some e =>
                  rw [hq] at hgo
                  have hNf : NextAt r f := hN left hf9 (by omega)
                  repeat (any_goals (first | refine T.seq ?_ | refine T.region ?_ | (apply T.regionD wide; rfl) | refine TL.nil ?_ | refine N.next ?_ | refine N.inBlock ?_ | refine N.exit_same ?_ | refine N.exit_then ?_ | refine N.ret_then ?_ | refine N.ret_block ?_ | (apply N.exit_other; rfl) | refine T.ret ?_ | refine T.skip ?_ | refine T.exit ?_ | refine T.block ?_ | (apply T.cond_true; rfl) | (apply T.cond_false; rfl) | (apply T.test; rfl; (with_reducible (first | exact Is.ndec | exact Is.dec | exact Is.not | ((fail_if_success exact Is.litT); (fail_if_success exact Is.litF); exact Is.base))); intro _; rotate_left; intro _; rotate_right) | (apply TL.skip; rfl; rfl; rfl) | (apply TL.skip_none; rfl; rfl) | (apply GT.skip; rfl; rfl; rfl; decide +kernel) | (apply TL.x; rfl; rfl; (apply X.storeTo 0 (enc (sv.set.data.els[j]'hjl)); rfl; rfl; rfl; rfl; rfl; rfl; rfl; rfl; rfl; rfl); intro _ _) | (apply GS.eff; rfl; decide +kernel; rfl; (apply X.storeTo 0 (enc (sv.set.data.els[j]'hjl)); rfl; rfl; rfl; rfl; rfl; rfl; rfl; rfl; rfl; rfl); intro _ _) | (apply TL.callE (f := 118) [strV (sv.set.data.els[j]'hjl).text, strV z] Tryd.call118; rfl; rfl; rfl; rfl; (exact fun _ hs => hbv ▸ c_under28 (sv.set.data.els[j]'hjl).text z _ _ hs.sat hdn hzn)) | (apply GT.callE (f := 118) [strV (sv.set.data.els[j]'hjl).text, strV z] Tryd.call118; rfl; rfl; rfl; rfl; rfl; rfl; (exact fun _ hs => hbv ▸ c_under28 (sv.set.data.els[j]'hjl).text z _ _ hs.sat hdn hzn); decide +kernel) | (apply TL.val; rfl; rfl; (apply V.sliceHM left.len left.len; rfl; rfl; rfl; rfl; rfl; rfl; rfl; rfl; exact Nat.le_refl _; exact hlgp.cap)) | (apply GT.pure; rfl; rfl; rfl; rfl; (apply V.sliceHM left.len left.len; rfl; rfl; rfl; rfl; rfl; rfl; rfl; rfl; exact Nat.le_refl _; exact hlgp.cap); decide +kernel) | (apply GT.read; rfl; rfl; rfl; rfl; (apply V.sliceHM left.len left.len; rfl; rfl; rfl; rfl; rfl; rfl; rfl; rfl; exact Nat.le_refl _; exact hlgp.cap); decide +kernel) | (apply GS.grow; rfl; rfl; (apply X.appendOn (⟨left.A, left.len, left.len, left.els⟩ : Slc Bytes); rfl; rfl; rfl; rfl; rfl; rfl; rfl; rfl; exact lmem; rfl; exact hslg; rfl; decide; (refine Nat.le_trans (Nat.mul_le_mul_left _ (show _ ≤ 1000 by decide)) ?_; show (left.len + 1) * 1000 ≤ _; omega); (show left.len + 1 ≤ maxLen; unfold maxLen; omega)); intro p3 _; apply GT.frzRow 0 (left.els ++ [z]); rfl; rfl; exact (encs_snoc left.els z).symm; (rw [List.length_append, hll]; rfl); exact hgz; intro H5 s5 e5 e6 hg5 hle5; have hs5l : s5.len = left.len + 1 := (by have := hg5.len; rw [e6, List.length_append, hll] at this; exact this.symm)) | (apply GS.grow; rfl; rfl; (apply X.callFE (f := 119) [.agg (enc r).toArray, strV (sv.set.data.els[j]'hjl).text, .slice (some ⟨p3.1, 0, none⟩) (left.len + 1) p3.2] Tryd.call119; rfl; rfl; rfl; exact (fun _ hs => by have h := c_ihostS (n := n) s5 hNf hq (Nat.le_trans hnw hs.below.size) hs.sat (Enc.mono hle5 hrp) hK hdn hg5 (by omega); rw [e5, e6] at h; exact h)); intro px hpx) | (apply TL.x; rfl; rfl; (apply X.storeTo 0 (enc px.2); rfl; rfl; rfl; rfl; rfl; rfl; rfl; rfl; rfl; rfl); intro _ _) | (apply GS.eff; rfl; decide +kernel; rfl; (apply X.storeTo 0 (enc px.2); rfl; rfl; rfl; rfl; rfl; rfl; rfl; rfl; rfl; rfl); intro _ _) | (apply TL.x; rfl; rfl; (apply X.storeTo 1 (enc px.2); rfl; rfl; rfl; rfl; rfl; rfl; rfl; rfl; rfl; rfl); intro _ _) | (apply GS.eff; rfl; decide +kernel; rfl; (apply X.storeTo 1 (enc px.2); rfl; rfl; rfl; rfl; rfl; rfl; rfl; rfl; rfl; rfl); intro _ _) | (apply TL.x; rfl; rfl; (apply X.storeTo 5 (enc px.2); rfl; rfl; rfl; rfl; rfl; rfl; rfl; rfl; rfl; rfl); intro _ _) | (apply GS.eff; rfl; decide +kernel; rfl; (apply X.storeTo 5 (enc px.2); rfl; rfl; rfl; rfl; rfl; rfl; rfl; rfl; rfl; rfl); intro _ _) | (apply TL.val; rfl; rfl; (first | exact vpure | exact vread)) | (apply GT.pure; rfl; rfl; rfl; rfl; (first | exact vpure); decide +kernel) | (apply GT.read; rfl; rfl; rfl; rfl; (first | exact vpure | exact vread); decide +kernel) | (apply GT.done; decide +kernel; apply N.ofQ) | (apply GT.adv; rfl) | (apply TL.x; rfl; rfl; (first | exact xgrow | exact xput); intro _ _) | (apply GS.grow; rfl; rfl; (first | exact xgrow); intro _ _) | (apply GS.eff; rfl; decide +kernel; rfl; (first | exact xput); intro _ _) | (apply TL.guard; rfl; rfl; rfl; (with_reducible (first | exact Is.ndec | exact Is.dec | exact Is.not | ((fail_if_success exact Is.litT); (fail_if_success exact Is.litF); exact Is.base))); intro _; rotate_left; intro _; rotate_right) | (apply GT.guard; rfl; rfl; rfl; rfl; (with_reducible (first | exact Is.ndec | exact Is.dec | exact Is.not | ((fail_if_success exact Is.litT); (fail_if_success exact Is.litF); exact Is.base))); intro _; rotate_left; intro _; rotate_right) | (apply GT.fork1; decide +kernel) | (apply GT.fork2 1; decide +kernel) | (apply GT.fork2 2; decide +kernel) | (apply GT.fork2 3; decide +kernel) | (apply GT.fork2 4; decide +kernel) | (apply GT.fork2 5; decide +kernel) | (apply GT.fork2 6; decide +kernel) | (apply GT.fork2 7; decide +kernel) | (apply GT.fork2 8; decide +kernel) | (apply GT.fork2 9; decide +kernel) | (apply GT.fork2 10; decide +kernel) | (apply GT.fork2 11; decide +kernel) | (apply GT.fork2 12; decide +kernel) | (apply GT.fork2 13; decide +kernel) | (apply GT.fork2 14; decide +kernel) | (apply GT.fork2 15; decide +kernel) | (apply GT.fork2 16; decide +kernel) | (apply GT.fork2 17; decide +kernel) | (apply GT.fork2 18; decide +kernel) | (apply GT.fork2 19; decide +kernel) | (apply GT.fork2 20; decide +kernel) | (apply GT.fork2 21; decide +kernel) | (apply GT.fork2 22; decide +kernel) | (apply GT.fork2 23; decide +kernel)))
                  all_goals (try contradiction)
                  all_goals (try (exfalso; omega))
                  all_goals
                    refine N.round_out (i := 3) (e := .ret) trivial rfl fun w hs => ⟨false, (px.1, some px.2), rfl, ?_, hs.sub (List.Sublist.cons _ (List.Sublist.cons _ (List.Sublist.cons _ (List.Sublist.refl _))))⟩
                    rw [if_neg (by simp)]
                    exact ⟨px.2, rfl, hpx.1.1.trans hgo, hpx.1.2⟩
            · have hno := outside_no (K := r.K.map Signed.c) (z := z) (by simp only [hhost]; exact fun i hi => hrel i hi (by omega))
              rw [hno] at hgo
              simp only at hgo
              repeat (any_goals (first | refine T.seq ?_ | refine T.region ?_ | (apply T.regionD wide; rfl) | refine TL.nil ?_ | refine N.next ?_ | refine N.inBlock ?_ | refine N.exit_same ?_ | refine N.exit_then ?_ | refine N.ret_then ?_ | refine N.ret_block ?_ | (apply N.exit_other; rfl) | refine T.ret ?_ | refine T.skip ?_ | refine T.exit ?_ | refine T.block ?_ | (apply T.cond_true; rfl) | (apply T.cond_false; rfl) | (apply T.test; rfl; (with_reducible (first | exact Is.ndec | exact Is.dec | exact Is.not | ((fail_if_success exact Is.litT); (fail_if_success exact Is.litF); exact Is.base))); intro _; rotate_left; intro _; rotate_right) | (apply TL.skip; rfl; rfl; rfl) | (apply TL.skip_none; rfl; rfl) | (apply GT.skip; rfl; rfl; rfl; decide +kernel) | (apply TL.val; rfl; rfl; (first | exact vpure | exact vread)) | (apply GT.pure; rfl; rfl; rfl; rfl; (first | exact vpure); decide +kernel) | (apply GT.read; rfl; rfl; rfl; rfl; (first | exact vpure | exact vread); decide +kernel) | (apply GT.done; decide +kernel; apply N.ofQ) | (apply GT.adv; rfl) | (apply TL.x; rfl; rfl; (first | exact xgrow | exact xput); intro _ _) | (apply GS.grow; rfl; rfl; (first | exact xgrow); intro _ _) | (apply GS.eff; rfl; decide +kernel; rfl; (first | exact xput); intro _ _) | (apply TL.guard; rfl; rfl; rfl; (with_reducible (first | exact Is.ndec | exact Is.dec | exact Is.not | ((fail_if_success exact Is.litT); (fail_if_success exact Is.litF); exact Is.base))); intro _; rotate_left; intro _; rotate_right) | (apply GT.guard; rfl; rfl; rfl; rfl; (with_reducible (first | exact Is.ndec | exact Is.dec | exact Is.not | ((fail_if_success exact Is.litT); (fail_if_success exact Is.litF); exact Is.base))); intro _; rotate_left; intro _; rotate_right) | (apply GT.fork1; decide +kernel) | (apply GT.fork2 1; decide +kernel) | (apply GT.fork2 2; decide +kernel) | (apply GT.fork2 3; decide +kernel) | (apply GT.fork2 4; decide +kernel) | (apply GT.fork2 5; decide +kernel) | (apply GT.fork2 6; decide +kernel) | (apply GT.fork2 7; decide +kernel) | (apply GT.fork2 8; decide +kernel) | (apply GT.fork2 9; decide +kernel) | (apply GT.fork2 10; decide +kernel) | (apply GT.fork2 11; decide +kernel) | (apply GT.fork2 12; decide +kernel) | (apply GT.fork2 13; decide +kernel) | (apply GT.fork2 14; decide +kernel) | (apply GT.fork2 15; decide +kernel) | (apply GT.fork2 16; decide +kernel) | (apply GT.fork2 17; decide +kernel) | (apply GT.fork2 18; decide +kernel) | (apply GT.fork2 19; decide +kernel) | (apply GT.fork2 20; decide +kernel) | (apply GT.fork2 21; decide +kernel) | (apply GT.fork2 22; decide +kernel) | (apply GT.fork2 23; decide +kernel)))
              all_goals (try (exfalso; omega))
              refine N.round_out (i := 0) (e := .normal) trivial rfl fun w hs => ⟨true, (pa.1, none), rfl, ?_, hs⟩
              rw [if_pos rfl]
              exact ⟨rfl, hle.trans hpa.2, hgo⟩
    · rintro e w2 ⟨v, ⟨Hg, o⟩, rfl, (⟨ho, hle, hgo⟩ | ⟨x, ho, hx, hxg⟩), hs2⟩
      · simp only at ho hle hgo
        subst ho
        refine ⟨(Hg, none), v, .ready, rfl, ?_, by simp, hs2⟩
        rw [hzs, List.drop_length] at hgo
        exact hgo.symm
      · simp only at ho
        subst ho
        exact ⟨(Hg, some x), v, .done, rfl, ⟨hx, hxg⟩, by simp, hs2⟩
  · rintro b ⟨Hg, o⟩ hgot
    cases o with
    | none =>
      show N _ _ _ _ .normal _ _ _
      simp only [Option.getD_none]
      repeat (any_goals (first | refine T.seq ?_ | refine T.region ?_ | (apply T.regionD wide; rfl) | refine TL.nil ?_ | refine N.next ?_ | refine N.inBlock ?_ | refine N.exit_same ?_ | refine N.exit_then ?_ | refine N.ret_then ?_ | refine N.ret_block ?_ | (apply N.exit_other; rfl) | refine T.ret ?_ | refine T.skip ?_ | refine T.exit ?_ | refine T.block ?_ | (apply T.cond_true; rfl) | (apply T.cond_false; rfl) | (apply T.test; rfl; (with_reducible (first | exact Is.ndec | exact Is.dec | exact Is.not | ((fail_if_success exact Is.litT); (fail_if_success exact Is.litF); exact Is.base))); intro _; rotate_left; intro _; rotate_right) | (apply TL.skip; rfl; rfl; rfl) | (apply TL.skip_none; rfl; rfl) | (apply GT.skip; rfl; rfl; rfl; decide +kernel) | (refine N.noGoto trivial ?_) | (apply TL.val; rfl; rfl; (apply V.build; rfl; rfl; rfl; rfl; rfl; rfl)) | (apply GT.pure; rfl; rfl; rfl; rfl; (apply V.build; rfl; rfl; rfl; rfl; rfl; rfl); decide +kernel) | (apply GT.read; rfl; rfl; rfl; rfl; (apply V.build; rfl; rfl; rfl; rfl; rfl; rfl); decide +kernel) | (apply TL.x; rfl; rfl; (apply X.storeTo 1 (enc darkX); rfl; rfl; rfl; rfl; rfl; rfl; rfl; rfl; rfl; rfl); intro _ _) | (apply GS.eff; rfl; decide +kernel; rfl; (apply X.storeTo 1 (enc darkX); rfl; rfl; rfl; rfl; rfl; rfl; rfl; rfl; rfl; rfl); intro _ _) | (apply TL.val; rfl; rfl; (first | exact vpure | exact vread)) | (apply GT.pure; rfl; rfl; rfl; rfl; (first | exact vpure); decide +kernel) | (apply GT.read; rfl; rfl; rfl; rfl; (first | exact vpure | exact vread); decide +kernel) | (apply GT.done; decide +kernel; apply N.ofQ) | (apply GT.adv; rfl) | (apply TL.x; rfl; rfl; (first | exact xgrow | exact xput); intro _ _) | (apply GS.grow; rfl; rfl; (first | exact xgrow); intro _ _) | (apply GS.eff; rfl; decide +kernel; rfl; (first | exact xput); intro _ _) | (apply TL.guard; rfl; rfl; rfl; (with_reducible (first | exact Is.ndec | exact Is.dec | exact Is.not | ((fail_if_success exact Is.litT); (fail_if_success exact Is.litF); exact Is.base))); intro _; rotate_left; intro _; rotate_right) | (apply GT.guard; rfl; rfl; rfl; rfl; (with_reducible (first | exact Is.ndec | exact Is.dec | exact Is.not | ((fail_if_success exact Is.litT); (fail_if_success exact Is.litF); exact Is.base))); intro _; rotate_left; intro _; rotate_right) | (apply GT.fork1; decide +kernel) | (apply GT.fork2 1; decide +kernel) | (apply GT.fork2 2; decide +kernel) | (apply GT.fork2 3; decide +kernel) | (apply GT.fork2 4; decide +kernel) | (apply GT.fork2 5; decide +kernel) | (apply GT.fork2 6; decide +kernel) | (apply GT.fork2 7; decide +kernel) | (apply GT.fork2 8; decide +kernel) | (apply GT.fork2 9; decide +kernel) | (apply GT.fork2 10; decide +kernel) | (apply GT.fork2 11; decide +kernel) | (apply GT.fork2 12; decide +kernel) | (apply GT.fork2 13; decide +kernel) | (apply GT.fork2 14; decide +kernel) | (apply GT.fork2 15; decide +kernel) | (apply GT.fork2 16; decide +kernel) | (apply GT.fork2 17; decide +kernel) | (apply GT.fork2 18; decide +kernel) | (apply GT.fork2 19; decide +kernel) | (apply GT.fork2 20; decide +kernel) | (apply GT.fork2 21; decide +kernel) | (apply GT.fork2 22; decide +kernel) | (apply GT.fork2 23; decide +kernel)))
      refine N.marked (i := 0) rfl (N.ret1 rfl (by (exact rvx)) fun w hst => ⟨(Hg, darkX), ⟨?_, darkX_good, fun h => absurd h (Nat.lt_irrefl 0)⟩, rfl, hst.fresh⟩)
      exact (show want = darkN from hgot).symm
    | some x =>
      show N _ _ _ _ .ret _ _ _
      simp only [Option.getD_some]
      repeat (any_goals (first | refine T.seq ?_ | refine T.region ?_ | (apply T.regionD wide; rfl) | refine TL.nil ?_ | refine N.next ?_ | refine N.inBlock ?_ | refine N.exit_same ?_ | refine N.exit_then ?_ | refine N.ret_then ?_ | refine N.ret_block ?_ | (apply N.exit_other; rfl) | refine T.ret ?_ | refine T.skip ?_ | refine T.exit ?_ | refine T.block ?_ | (apply T.cond_true; rfl) | (apply T.cond_false; rfl) | (apply T.test; rfl; (with_reducible (first | exact Is.ndec | exact Is.dec | exact Is.not | ((fail_if_success exact Is.litT); (fail_if_success exact Is.litF); exact Is.base))); intro _; rotate_left; intro _; rotate_right) | (apply TL.skip; rfl; rfl; rfl) | (apply TL.skip_none; rfl; rfl) | (apply GT.skip; rfl; rfl; rfl; decide +kernel) | (refine N.noGoto trivial ?_) | (apply TL.val; rfl; rfl; (first | exact vpure | exact vread)) | (apply GT.pure; rfl; rfl; rfl; rfl; (first | exact vpure); decide +kernel) | (apply GT.read; rfl; rfl; rfl; rfl; (first | exact vpure | exact vread); decide +kernel) | (apply GT.done; decide +kernel; apply N.ofQ) | (apply GT.adv; rfl) | (apply TL.x; rfl; rfl; (first | exact xgrow | exact xput); intro _ _) | (apply GS.grow; rfl; rfl; (first | exact xgrow); intro _ _) | (apply GS.eff; rfl; decide +kernel; rfl; (first | exact xput); intro _ _) | (apply TL.guard; rfl; rfl; rfl; (with_reducible (first | exact Is.ndec | exact Is.dec | exact Is.not | ((fail_if_success exact Is.litT); (fail_if_success exact Is.litF); exact Is.base))); intro _; rotate_left; intro _; rotate_right) | (apply GT.guard; rfl; rfl; rfl; rfl; (with_reducible (first | exact Is.ndec | exact Is.dec | exact Is.not | ((fail_if_success exact Is.litT); (fail_if_success exact Is.litF); exact Is.base))); intro _; rotate_left; intro _; rotate_right) | (apply GT.fork1; decide +kernel) | (apply GT.fork2 1; decide +kernel) | (apply GT.fork2 2; decide +kernel) | (apply GT.fork2 3; decide +kernel) | (apply GT.fork2 4; decide +kernel) | (apply GT.fork2 5; decide +kernel) | (apply GT.fork2 6; decide +kernel) | (apply GT.fork2 7; decide +kernel) | (apply GT.fork2 8; decide +kernel) | (apply GT.fork2 9; decide +kernel) | (apply GT.fork2 10; decide +kernel) | (apply GT.fork2 11; decide +kernel) | (apply GT.fork2 12; decide +kernel) | (apply GT.fork2 13; decide +kernel) | (apply GT.fork2 14; decide +kernel) | (apply GT.fork2 15; decide +kernel) | (apply GT.fork2 16; decide +kernel) | (apply GT.fork2 17; decide +kernel) | (apply GT.fork2 18; decide +kernel) | (apply GT.fork2 19; decide +kernel) | (apply GT.fork2 20; decide +kernel) | (apply GT.fork2 21; decide +kernel) | (apply GT.fork2 22; decide +kernel) | (apply GT.fork2 23; decide +kernel)))
      exact N.marked (i := 0) rfl (N.ret1 rfl (by (exact rvx)) fun w hst => ⟨(Hg, x), hgot, rfl, hst.fresh⟩)
theorem c_inext (r : Res) (hK : knownOK (r.K.map Signed.c) = true) (hh : r.hints.len ≤ 1000) : ∀ f, NextAt r (f + 1)
  | 0 => c_inextUp r hK hh 0 fun left h1 h2 => by omega
  | f + 1 => c_inextUp r hK hh (f + 1) fun _ _ _ => c_inext r hK hh f
end Go.Proofs.YtfbhcemlnojejaaDoor
