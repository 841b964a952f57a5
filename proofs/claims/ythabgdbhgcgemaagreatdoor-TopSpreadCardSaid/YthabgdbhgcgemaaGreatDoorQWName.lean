import Derived.Test.YthabgdbhgcgemaaGreatDoorQWA
namespace Go.Proofs.YthabgdbhgcgemaaGreatDoor
set_option linter.unusedVariables false
set_option linter.unusedSimpArgs false
open Go Go.RowKit
open Enc (enc)
set_option maxRecDepth 20000
theorem c_last0 (l : Bytes) (c : UInt8) (H : Hp) (w : World) (hs : Sat H w) (hl : LenOk l) : Calls Tryz.prog 197 #[strV l, .int .u8 c.toNat] w (Ret w (intV (lastB c l))) := by
  have hl' : l.length ≤ 9223372036854775807 := hl
  refine T.enter (vs := [strV l, .int .u8 c.toNat]) (H := H) Tryz.func197 rfl rfl rfl hs ?_
  repeat (any_goals (first | refine T.seq ?_ | refine T.region ?_ | refine TL.nil ?_ | refine N.next ?_ | refine T.block ?_ | (apply TL.val; rfl; rfl; (first | exact vpure | exact vread))))
  refine T.loop (G := Nat) (fun k => [(0, strV l), (1, .int .u8 c.toNat), (5, intV ((k : Int) - 1))]) (fun _ => H) (fun _ => []) (fun k => k ≤ l.length ∧ lastFrom c l k = lastB c l) (fun k => k) l.length ⟨Nat.le_refl _, rfl⟩ (by (repeat (first | exact True.intro | refine ⟨rfl, ?_⟩ | refine Sub.int rfl (by omega) ?_))) rfl (by (first | exact List.Sublist.refl _ | exact List.nil_sublist _ | exact List.Sublist.cons _ (List.Sublist.refl _) | exact List.Sublist.cons _ (List.Sublist.cons _ (List.Sublist.refl _)))) ?_
  rintro k ⟨hk, hrel⟩
  have el : ∀ _ : 0 < k, lastFrom c l k = if l.getD (k - 1) 0 = c then ((k - 1 : Nat) : Int) else lastFrom c l (k - 1) := fun h => by
    cases k with
    | zero => omega
    | succ k => rfl
  have hi : ((k : Int) - 1).toNat = k - 1 := by omega
  repeat (any_goals (first | refine T.seq ?_ | refine T.region ?_ | refine TL.nil ?_ | refine N.next ?_ | refine N.inBlock ?_ | refine N.exit_same ?_ | refine N.exit_then ?_ | refine N.ret_then ?_ | refine N.ret_block ?_ | refine T.ret ?_ | refine T.skip ?_ | refine T.exit ?_ | refine T.block ?_ | (apply T.test; rfl; (exact isx); intro _; rotate_left; intro _; rotate_right) | (apply TL.val; rfl; rfl; (first | exact vpure | exact vread))))
  all_goals (try (apply N.ret_int; rfl; (exact rvx)))
  all_goals (try rw [hi] at *)
  · rename_i h1 h2
    rw [← hrel, el (by omega), if_pos (UInt8.toNat_inj.1 (by omega))]; omega
  · (refine N.round (k - 1) ?_ ?_ ?_ ?_ ?_; rotate_left 2; (repeat (first | exact True.intro | refine ⟨rfl, ?_⟩ | refine Sub.int rfl (by omega) ?_)); rfl; (first | exact List.Sublist.refl _ | exact List.nil_sublist _ | exact List.Sublist.cons _ (List.Sublist.refl _) | exact List.Sublist.cons _ (List.Sublist.cons _ (List.Sublist.refl _))))
    · rename_i h1 h2
      exact ⟨by omega, by rw [← hrel, el (by omega), if_neg (fun e => h2 (by rw [e]))]⟩
    · omega
  · have : k = 0 := by omega
    subst this; exact hrel
theorem c_last (l : Bytes) (c : UInt8) (H : Hp) (w : World) (hs : Sat H w) (hl : LenOk l) (v : Int) (hv : lastB c l = v) : Calls Tryz.prog 187 #[strV l, .int .u8 c.toNat] w (Ret w (intV v)) := by
  refine T.enter (vs := [strV l, .int .u8 c.toNat]) (H := H) Tryz.func187 rfl rfl rfl hs ?_
  repeat (any_goals (first | refine T.seq ?_ | refine T.region ?_ | refine TL.nil ?_ | refine N.next ?_ | refine T.ret ?_ | (apply TL.call0 (f := 197) Tryz.call197; rfl; rfl; rfl; (exact fun _ hs => c_last0 _ _ _ _ hs.sat hl)) | (apply TL.val; rfl; rfl; (first | exact vpure | exact vread))))
  all_goals (try (apply N.ret_int; rfl; (exact rvx)))
  exact hv
set_option maxHeartbeats 1000000 in
theorem c_backwards (l : Bytes) (hl : LenOk l) {G : Type} (Φ : Nat → G → Prop) (Φs : G → Prop) (HH : G → Hp) (LL : G → List Loc) {w0 : World} {H0 : Hp} {rl : Nat}
    (hy : ∀ k g, Φ k g → ∀ (h : k < (labs l).length) w, St w0 H0 (HH g) (LL g) w → YieldAt (FW none) 0 Tryz.prog rl #[strV (labs l)[k]] w (fun e w' => ∃ b g', e = .returned (.bool b) ∧ (if b = true then Φ (k + 1) g' else Φs g') ∧ St w0 H0 (HH g') (LL g') w'))
    (g0 : G) (h0 : Φ 0 g0) {w : World} (hs : St w0 H0 (HH g0) (LL g0) w) :
    CallsIn (FW none) 0 Tryz.prog 160 #[strV l, .func (.yield rl) #[] #[]] w (fun e w' => ∃ v g, e = .returned v ∧ (Φ (labs l).length g ∨ Φs g) ∧ St w0 H0 (HH g) (LL g) w') := by
  refine T.enterIn (vs := [strV l, .func (.yield rl) #[] #[]]) Tryz.func160 rfl rfl rfl hs ?_
  repeat (any_goals (first | refine T.seq ?_ | refine T.region ?_ | refine TL.nil ?_ | refine N.next ?_ | refine N.ret_then ?_ | refine T.ret ?_ | refine T.skip ?_ | refine T.block ?_ | (apply T.test; rfl; (exact isx); intro _; rotate_left; intro _; rotate_right) | (apply TL.val; rfl; rfl; (first | exact vpure | exact vread))))
  · rename_i hd
    refine N.ret0 rfl fun w hs => ⟨_, g0, rfl, .inl ?_, hs⟩
    rw [show labs l = [] by unfold labs; rw [if_pos hd]]; exact h0
  · rename_i hd
    have hlabs : labs l = (splitDots l).reverse := by unfold labs; rw [if_neg hd]
    refine T.loop (G := Nat × Bytes × G) (fun p => [(1, .func (.yield rl) #[] #[]), (4, strV p.2.1)]) (fun p => HH p.2.2) (fun p => LL p.2.2) (fun p => Φ p.1 p.2.2 ∧ LenOk p.2.1 ∧ (labs l).drop p.1 = (splitDots p.2.1).reverse) (fun p => p.2.1.length) (0, l, g0) ⟨h0, hl, by rw [hlabs]; rfl⟩ (by (repeat (first | exact True.intro | refine ⟨rfl, ?_⟩ | refine Sub.int rfl (by omega) ?_))) rfl (by (first | exact List.Sublist.refl _ | exact List.nil_sublist _ | exact List.Sublist.cons _ (List.Sublist.refl _) | exact List.Sublist.cons _ (List.Sublist.cons _ (List.Sublist.refl _)))) ?_
    rintro ⟨k, r, g⟩ ⟨hΦ, hr, hk⟩
    simp only at hΦ hr hk ⊢
    have hr' : r.length ≤ 9223372036854775807 := hr
    have hlen : (labs l).length - k = (splitDots r).length := by rw [← List.length_drop, hk, List.length_reverse]
    rcases split_last r with ⟨hv, hsp⟩ | ⟨i, hi, hv, hsp⟩
    · have hkl : k + 1 = (labs l).length := by rw [hsp] at hlen; simp at hlen; omega
      have hlab : (labs l)[k]'(by omega) = r := by
        have := congrArg (fun x : List Bytes => x[0]?) hk
        simp only [hsp, List.getElem?_drop, Nat.add_zero] at this
        rw [List.getElem?_eq_getElem (by omega)] at this
        simpa using this
      have hY := fun w hs => hy k g hΦ (by omega) w hs
      rw [hlab] at hY
      repeat (any_goals (first | refine T.seq ?_ | refine T.region ?_ | refine TL.nil ?_ | refine N.next ?_ | refine N.ret_then ?_ | refine N.ret_block ?_ | refine T.ret ?_ | refine T.block ?_ | (apply T.cond_true; rfl) | (apply TL.skip; rfl; rfl; rfl) | (apply TL.call0 (f := 187) Tryz.call187; rfl; rfl; rfl; (exact fun _ hs => c_last _ 46 _ _ hs.sat hr _ hv)) | (apply TL.yield; (iterate 4 rfl); exact hY; intro b g' hb) | (apply TL.val; rfl; rfl; (first | exact vpure | exact vread)) | (apply TL.guard; rfl; rfl; rfl; (exact isx); intro _; rotate_left; intro _; rotate_right)))
      · rename_i hbf
        rw [hbf] at hb
        exact N.ret0 rfl fun w hs => ⟨_, g', rfl, .inr hb, hs⟩
      · rename_i hbt
        rw [hbt] at hb
        exact N.ret0 rfl fun w hs => ⟨_, g', rfl, .inl (hkl ▸ hb), hs⟩
    · have hrev : (splitDots r).reverse = r.drop (i + 1) :: (splitDots (r.take i)).reverse := by rw [hsp, List.reverse_append]; rfl
      have hkl : k < (labs l).length := by rw [hsp] at hlen; simp at hlen; omega
      rw [hrev, List.drop_eq_getElem_cons hkl] at hk
      obtain ⟨hlab, hk'⟩ := List.cons.inj hk
      have hY := fun w hs => hy k g hΦ hkl w hs
      rw [hlab] at hY
      repeat (any_goals (first | refine T.seq ?_ | refine T.region ?_ | refine TL.nil ?_ | refine N.next ?_ | refine N.inBlock ?_ | refine N.ret_then ?_ | refine N.ret_block ?_ | refine T.ret ?_ | refine T.skip ?_ | refine T.block ?_ | (apply T.cond_true; rfl) | (apply T.cond_false; rfl) | (apply TL.skip; rfl; rfl; rfl) | (apply TL.call0 (f := 187) Tryz.call187; rfl; rfl; rfl; (exact fun _ hs => c_last _ 46 _ _ hs.sat hr _ hv)) | (apply TL.yield; (iterate 4 rfl); exact hY; intro b g' hb) | (apply TL.val; rfl; rfl; (first | exact vpure | exact vread)) | (apply TL.guard; rfl; rfl; rfl; (exact isx); intro _; rotate_left; intro _; rotate_right)))
      · rename_i hbf
        rw [hbf] at hb
        exact N.ret0 rfl fun w hs => ⟨_, g', rfl, .inr hb, hs⟩
      · rename_i hbt
        rw [hbt] at hb
        (refine N.round ((k + 1, r.take i, g')) ?_ ?_ ?_ ?_ ?_; rotate_left 2; (repeat (first | exact True.intro | refine ⟨rfl, ?_⟩ | refine Sub.int rfl (by omega) ?_)); rfl; (first | exact List.Sublist.refl _ | exact List.nil_sublist _ | exact List.Sublist.cons _ (List.Sublist.refl _) | exact List.Sublist.cons _ (List.Sublist.cons _ (List.Sublist.refl _))))
        · exact ⟨hb, by show (r.take i).length ≤ _; simp; omega, hk'⟩
        · simp only [List.length_take]; omega
def wildAt (r : List Bytes) (k : Nat) : Bool := decide (0 < k ∧ r.getD (k - 1) [] = [42])
def goodTo (r : List Bytes) (k : Nat) : Prop := k ≤ 8 ∧ ∀ j, j < k → isLab (r.getD j []) = true ∨ (j + 1 = k ∧ r.getD j [] = [42])
theorem okRev_of {r : List Bytes} (h : goodTo r r.length) : okRev r := ⟨h.1, fun j hj => by
  have := h.2 j hj
  rw [List.getD_eq_getElem?_getD, List.getElem?_eq_getElem hj] at this
  exact this⟩
theorem okRev_at {r : List Bytes} (h : okRev r) (k : Nat) (hk : k < r.length) : (isLab (r.getD k []) = true ∨ (k + 1 = r.length ∧ r.getD k [] = [42])) := by
  have := h.2 k hk
  rw [List.getD_eq_getElem?_getD, List.getElem?_eq_getElem hk]
  exact this
theorem splitDots_len : ∀ (l : Bytes) (x : Bytes), x ∈ splitDots l → x.length ≤ l.length
  | [], x, h => by simp [splitDots] at h; subst h; simp
  | c :: l, x, h => by
    unfold splitDots at h
    by_cases hc : c = 46
    · rw [if_pos hc] at h
      rcases List.mem_cons.1 h with rfl | h
      · simp
      · have := splitDots_len l x h; simp; omega
    · rw [if_neg hc] at h
      cases hp : splitDots l with
      | nil => exact absurd hp (splitDots_ne l)
      | cons q r =>
        rw [hp] at h
        rcases List.mem_cons.1 h with rfl | h
        · have := splitDots_len l q (by rw [hp]; simp); simp; omega
        · have := splitDots_len l x (by rw [hp]; simp [h]); simp; omega
theorem labs_len {l x : Bytes} (h : x ∈ labs l) : x.length ≤ l.length := by
  unfold labs at h
  split at h
  · cases h
  · exact splitDots_len l x (List.mem_reverse.1 h)
def nmLL (rd : LoopState → Option Code → Loop) (b b2 b3 b4 : Nat) (r : List Bytes) : Option Nat → List Loc
  | some k => [.any (b + 1) (.loop (rd .ready none)), .any b (.deferred (some [])), .blk b4 4 [.bool (wildAt r k)], .blk b3 3 [intV k], .blk b2 4 [.bool false]]
  | none => [.any (b + 1) (.loop (rd .done (some .ret))), .any b (.deferred (some [])), .blk b2 4 [.bool false]]
theorem stop_no {l : Bytes} (hd : ¬ l = [46]) {k : Nat} (hk : k < (labs l).length) (h : wildAt (labs l) k = true ∨ 8 < k + 1 ∨ ((labs l)[k] ≠ [42] ∧ isLab (labs l)[k] = false)) : nameOK l = false := by
  have hlabs : labs l = (splitDots l).reverse := by unfold labs; rw [if_neg hd]
  refine nameOK_no ?_
  rintro (h0 | ⟨_, h1⟩)
  · exact hd h0
  · rw [← hlabs] at h1
    rcases h with h | h | ⟨h, h'⟩
    · unfold wildAt at h
      simp only [decide_eq_true_eq] at h
      rcases okRev_at h1 (k - 1) (by omega) with h2 | ⟨h2, _⟩
      · rw [h.2, not_lab_star] at h2; cases h2
      · omega
    · have := h1.1; omega
    · rcases h1.2 k hk with h2 | ⟨_, h2⟩
      · rw [h'] at h2; cases h2
      · exact h h2
theorem good_next {r : List Bytes} {k : Nat} (hg : goodTo r k) (hk : k < r.length) (hw : wildAt r k = false) (h8 : ¬ 8 < k + 1) (hx : r[k] = [42] ∨ isLab r[k] = true) : goodTo r (k + 1) := by
  refine ⟨by omega, fun j hj => ?_⟩
  by_cases e : j = k
  · subst e
    rw [List.getD_eq_getElem?_getD, List.getElem?_eq_getElem hk]
    rcases hx with h | h
    · exact .inr ⟨rfl, h⟩
    · exact .inl h
  · rcases hg.2 j (by omega) with h | ⟨h, h'⟩
    · exact .inl h
    · unfold wildAt at hw
      simp only [decide_eq_false_iff_not] at hw
      have : k - 1 = j := by omega
      exact absurd ⟨by omega, by rw [this]; exact h'⟩ hw
theorem wildAt_next {r : List Bytes} {k : Nat} (hk : k < r.length) : wildAt r (k + 1) = decide (r[k] = [42]) := by
  unfold wildAt
  rw [Nat.add_sub_cancel, List.getD_eq_getElem?_getD, List.getElem?_eq_getElem hk]
  simp
set_option maxHeartbeats 2000000 in
theorem c_textValid (l : Bytes) (H : Hp) (w : World) (hs : Sat H w) (hl : LenOk l) : Calls Tryz.prog 152 #[strV l] w (Ret w (.bool (nameOK l))) := by
  have hl' : l.length ≤ 9223372036854775807 := hl
  refine T.enterM (vs := [strV l]) (H := H) Tryz.func152 rfl rfl rfl hs ?_
  repeat (any_goals (first | refine T.seq ?_ | refine T.region ?_ | refine TL.nil ?_ | refine N.next ?_ | refine N.ret_then ?_ | refine T.ret ?_ | refine T.skip ?_ | refine T.block ?_ | (apply T.test; rfl; (exact isx); intro _; rotate_left; intro _; rotate_right) | (apply TL.val; rfl; rfl; (first | exact vpure | exact vread)) | (apply TL.x; rfl; rfl; (first | exact xgrow | exact xput); intro _ _)))
  · rename_i h _ _
    exact N.bare (N.ret_bool rfl (by (exact rvx)) (by rw [h, nameOK_dot]))
  · rename_i hd h _ _
    exact N.bare (N.ret_bool rfl (by (exact rvx)) (nameOK_no (by rintro (h1 | ⟨h1, _⟩); exact hd h1; omega)).symm)
  · rename_i b2 _ hd h60 b3 _ b4 _ _ _ _ _
    have hlabs : labs l = (splitDots l).reverse := by unfold labs; rw [if_neg hd]
    refine T.rangeFunc (G := Bool) (fun g => if g = true then .normal else .ret) (fun _ => H) (fun _ => [.blk b2 4 [.bool false]]) (fun g => nameOK l = g) rfl Tryz.call160 (fun g _ => by cases g <;> trivial) ?_ ?_
    · intro fn a b hf w1 hs1
      refine (c_backwards l hl (G := Option Nat) (fun k g => g = some k ∧ goodTo (labs l) k) (fun g => g = none ∧ nameOK l = false) (fun _ => H) (nmLL (recd fn a.tmps _ _ _ b) b b2 b3 b4 (labs l)) ?_ (some 0) ⟨rfl, by omega, by omega⟩ hs1).mono ?_
      · rintro k g ⟨rfl, hgood⟩ hk w2 hs2
        have hk8 : k ≤ 8 := hgood.1
        have hlx : LenOk (labs l)[k] := Nat.le_trans (labs_len (List.getElem_mem hk)) hl'
        refine yieldAt_of (i := 0) hs2 rfl rfl _ (Fr.round1 hf rfl) (env₁ := [(0, strV l), (2, .pointer (some ⟨b2, 0, none⟩)), (3, .pointer (some ⟨b3, 0, none⟩)), (4, .pointer (some ⟨b4, 0, none⟩)), (5, strV (labs l)[k])]) ?_ ?_
        · repeat (any_goals (first | refine T.region ?_ | refine TL.nil ?_ | (apply TL.val; rfl; rfl; (first | exact vpure | exact vread))))
          exact N.both (by (repeat (first | exact True.intro | refine ⟨rfl, ?_⟩ | refine Sub.int rfl (by omega) ?_)))
        · simp only [nmLL, List.set_cons_zero]
          repeat (any_goals (first | refine T.seq ?_ | refine T.region ?_ | refine TL.nil ?_ | refine N.next ?_ | refine N.inBlock ?_ | refine N.ret_then ?_ | refine N.ret_block ?_ | refine T.ret ?_ | refine T.skip ?_ | refine T.block ?_ | (apply T.cond_true; rfl) | (apply T.cond_false; rfl) | (apply T.test; rfl; (exact isx); intro _; rotate_left; intro _; rotate_right) | (apply TL.skip; rfl; rfl; rfl) | (apply TL.call0 (f := 181) Tryz.call181; rfl; rfl; rfl; (exact fun _ hs => c_isLabel _ _ _ hs.sat hlx)) | (apply TL.val; rfl; rfl; (first | exact vpure | exact vread)) | (apply TL.x; rfl; rfl; (first | exact xgrow | exact xput); intro _ _) | (apply TL.guard; rfl; rfl; rfl; (exact isx); intro _; rotate_left; intro _; rotate_right)))
          all_goals clear hf hs1 hs2
          all_goals (try (refine N.round_out (i := 0) (e := .ret) trivial rfl fun w hs => ⟨false, none, rfl, ?_, hs.sub (.cons_cons _ (.cons_cons _ (.cons _ (.cons _ (.cons_cons _ .slnil)))))⟩; rw [if_neg (by simp)]; refine ⟨rfl, stop_no hd hk ?_⟩))
          all_goals (try (refine N.round_out (i := 0) (e := .normal) trivial rfl fun w hs => ⟨true, some (k + 1), rfl, ?_, ?_⟩))
          · exact .inl (by assumption)
          · exact .inr (.inl (by omega))
          · exact .inr (.inr ⟨by assumption, by assumption⟩)
          · rw [if_pos rfl]
            exact ⟨rfl, good_next hgood hk (by assumption) (by omega) (by first | exact .inl (by assumption) | exact .inr (by assumption))⟩
          · simp only [nmLL, wildAt_next hk]
            exact hs
          · rw [if_pos rfl]
            exact ⟨rfl, good_next hgood hk (by assumption) (by omega) (by first | exact .inl (by assumption) | exact .inr (by assumption))⟩
          · simp only [nmLL, wildAt_next hk]
            exact hs
      · rintro e w2 ⟨v, g, rfl, (⟨rfl, hg⟩ | ⟨rfl, hg⟩), hs2⟩
        · refine ⟨true, v, .ready, rfl, (nameOK_iff l).2 (.inr ⟨by omega, hlabs ▸ okRev_of hg⟩), by simp, hs2.sub ?_⟩
          exact .cons_cons _ (.cons_cons _ (.cons _ (.cons _ (.cons_cons _ .slnil))))
        · exact ⟨false, v, .done, rfl, hg, by simp, hs2⟩
    · intro b g hg
      cases g with
      | true =>
        show N _ _ _ _ .normal _ _ _
        repeat (any_goals (first | refine T.seq ?_ | refine T.region ?_ | refine TL.nil ?_ | refine N.next ?_ | refine N.inBlock ?_ | refine T.ret ?_ | (apply TL.x; rfl; rfl; (first | exact xgrow | exact xput); intro _ _)))
        exact N.marked (i := 0) rfl (N.ret_bool rfl (by (exact rvx)) hg.symm)
      | false =>
        show N _ _ _ _ .ret _ _ _
        repeat (any_goals (first | refine N.ret_then ?_ | refine N.ret_block ?_))
        exact N.marked (i := 0) rfl (N.ret_bool rfl (by (exact rvx)) hg.symm)
theorem c_nameValid (l : Bytes) (H : Hp) (w : World) (hs : Sat H w) (hl : LenOk l) : Calls Tryz.prog 127 #[strV l] w (Ret w (.bool (nameOK l))) := by
  refine T.enter (vs := [strV l]) (H := H) Tryz.func127 rfl rfl rfl hs ?_
  repeat (any_goals (first | refine T.seq ?_ | refine T.region ?_ | refine TL.nil ?_ | refine N.next ?_ | refine T.ret ?_ | (apply TL.call0 (f := 152) Tryz.call152; rfl; rfl; rfl; (exact fun _ hs => c_textValid _ _ _ hs.sat hl)) | (apply TL.val; rfl; rfl; (first | exact vpure | exact vread))))
  all_goals (try (first | (apply N.ret_bool; rfl; (exact rvx)) | (apply N.ret_int; rfl; (exact rvx)) | (apply N.ret_val; rfl; (exact rvx))))
  rfl
end Go.Proofs.YthabgdbhgcgemaaGreatDoor
namespace Go.Proofs.YthabgdbhgcgemaaGreatDoor
set_option linter.unusedVariables false
set_option linter.unusedSimpArgs false
open Go Go.RowKit
open Enc (enc)
set_option maxRecDepth 20000
theorem split_step {l : Bytes} {k : Nat} (hk : k < l.length) : splitDots (l.take (k + 1)) = if (l.getD k 0) = 46 then splitDots (l.take k) ++ [[]] else (splitDots (l.take k)).dropLast ++ [(splitDots (l.take k)).getLastD [] ++ [l.getD k 0]] := by
  have hg : l.getD k 0 = l[k] := by rw [List.getD_eq_getElem?_getD, List.getElem?_eq_getElem hk]; rfl
  rw [List.take_succ_eq_append_getElem hk, hg]
  by_cases h : l[k] = 46
  · rw [if_pos h, h]
    exact splitDots_app (s := []) (by simp) _
  · rw [if_neg h, splitDots_snoc h]
theorem encs_last {ps : List Bytes} {m : Nat} (hm : m + 1 = ps.length) (x : Bytes) : putCells (encs ps) m [strV x] = encs (ps.dropLast ++ [x]) := by
  have hne : ps ≠ [] := by intro e; subst e; simp at hm
  obtain ⟨qs, q, rfl⟩ : ∃ qs q, ps = qs ++ [q] := ⟨ps.dropLast, ps.getLast hne, (List.dropLast_concat_getLast hne).symm⟩
  have hq : qs.length = m := by simp at hm; omega
  have hl : (encs qs).length = m := by rw [encs_length]; show qs.length * 1 = m; omega
  rw [List.dropLast_concat, encs_snoc, encs_snoc]
  show (encs qs ++ [strV q]).set m (strV x) = _
  rw [List.set_append_right _ _ (by omega), hl]
  simp [enc]
set_option maxHeartbeats 2000000 in
theorem c_Split (l : Bytes) (H : Hp) (w : World) (hs : Sat H w) (hl : l.length ≤ 1000000) : Calls Tryz.prog 141 #[strV l] w (RetF w H (fun p : Hp × Slc Bytes => p.2.els = splitDots l ∧ p.2.Good p.1) (fun p => p.2.v) (fun p => p.1)) := by
  refine T.enter (vs := [strV l]) (H := H) Tryz.func141 rfl rfl rfl hs ?_
  repeat (any_goals (first | refine T.seq ?_ | refine T.region ?_ | refine TL.nil ?_ | refine N.next ?_ | refine T.block ?_ | (apply TL.val; rfl; rfl; (first | exact vpure | exact vread)) | (apply TL.x; rfl; rfl; (first | exact xgrow | exact xput); intro _ _)))
  refine T.blkRow 0 1 1 rfl rfl (by decide) ?_
  refine T.loop (G := Nat × Nat × Nat) (fun p => [(0, strV l), (3, .slice (some ⟨p.2.1, 0, none⟩) (splitDots (l.take p.1)).length p.2.2), (4, intV p.1)]) (fun _ => H) (fun p => [.row (.slice (some ⟨p.2.1, 0, none⟩) (splitDots (l.take p.1)).length p.2.2) 9 1 (splitDots (l.take p.1)).length (encs (splitDots (l.take p.1)))])
    (fun p => p.1 ≤ l.length) (fun p => l.length - p.1) (0, _, 1) (Nat.zero_le _) (by (repeat (first | exact True.intro | refine ⟨rfl, ?_⟩ | refine Sub.int rfl (by omega) ?_))) rfl (by (first | exact List.Sublist.refl _ | exact List.nil_sublist _ | exact List.Sublist.cons _ (List.Sublist.refl _) | exact List.Sublist.cons _ (List.Sublist.cons _ (List.Sublist.refl _)))) ?_
  rintro ⟨k, b, c⟩ hk
  simp only at hk ⊢
  obtain ⟨m, hm⟩ : ∃ m, m = (splitDots (l.take k)).length := ⟨_, rfl⟩
  have hm0 : 0 < m := by rw [hm]; exact List.length_pos_iff.2 (splitDots_ne _)
  have hmk : m ≤ k + 1 := by have := splitDots_count (l.take k); rw [List.length_take] at this; omega
  have hlast : (encs (splitDots (l.take k)))[0 + ((m : Int) - 1).toNat * 1]? = some (strV ((splitDots (l.take k)).getLastD [])) := by
    have := encs_get (splitDots (l.take k)) (m - 1) 0 ((splitDots (l.take k)).getLastD []) (strV ((splitDots (l.take k)).getLastD [])) (by
      rw [hm, ← List.getLast?_eq_getElem?]
      cases hp : splitDots (l.take k) with
      | nil => exact absurd hp (splitDots_ne _)
      | cons q r => simp [List.getLastD, List.getLast?]) rfl
    have e : (m - 1) * Enc.size Bytes + 0 = 0 + ((m : Int) - 1).toNat * 1 := by show (m - 1) * 1 + 0 = _; omega
    rw [e] at this; exact this
  have hll : ((splitDots (l.take k)).getLastD []).length ≤ 1000000 := by
    have hx : (splitDots (l.take k)).getLastD [] ∈ splitDots (l.take k) := by
      cases hp : splitDots (l.take k) with
      | nil => exact absurd hp (splitDots_ne _)
      | cons q r => rw [List.getLastD_eq_getLast?, List.getLast?_eq_some_getLast (by simp)]; exact List.getLast_mem _
    have := splitDots_len _ _ hx
    rw [List.length_take] at this; omega
  rw [← hm]
  repeat (any_goals (first | refine T.seq ?_ | refine T.region ?_ | (apply T.regionD wide; rfl) | refine TL.nil ?_ | refine N.next ?_ | refine N.inBlock ?_ | refine N.exit_same ?_ | refine N.exit_then ?_ | refine T.ret ?_ | refine T.skip ?_ | refine T.exit ?_ | refine T.block ?_ | (apply T.test; rfl; (exact isx); intro _; rotate_left; intro _; rotate_right) | (apply TL.x; rfl; rfl; (apply X.append1 1; (iterate 9 rfl); exact List.Mem.head _; rfl; rfl; rfl; (show (_ + 1) * 16 ≤ _; omega); omega); intro _ _) | (apply GT.read; (iterate 4 rfl); (apply V.load_own; rfl; rfl; rfl; exact List.Mem.head _; exact hlast); decide +kernel) | (apply GS.eff; rfl; decide +kernel; rfl; (apply X.storeRow 0; (iterate 7 rfl); (show 0 + _ * 1 + 1 ≤ _ * 1; omega)); intro _ _) | (apply TL.val; rfl; rfl; (first | exact vpure | exact vread)) | (apply GT.pure; (iterate 4 rfl); (first | exact vpure); decide +kernel) | (apply GT.done; decide +kernel; apply N.ofQ) | (apply TL.x; rfl; rfl; (first | exact xgrow | exact xput); intro _ _) | (apply GT.fork1; decide +kernel)))
  · rename_i b' _ hlt h46 _ p _
    have hs1 := split_step (l := l) (k := k) (by omega)
    have h46' : l.getD k 0 = 46 := UInt8.toNat_inj.1 (by show _ = 46; omega)
    rw [if_pos h46'] at hs1
    have e1 : (splitDots (l.take (k + 1))).length = m + 1 := by rw [hs1, hm]; simp
    have e2 : encs (splitDots (l.take (k + 1))) = encs (splitDots (l.take k)) ++ [strV []] := by rw [hs1, encs_append]; rfl
    refine N.round (k + 1, p.1, p.2) (by show k + 1 ≤ _; omega) (by show l.length - (k + 1) < l.length - k; omega) ?_ rfl ?_
    · simp only [e1]; (repeat (first | exact True.intro | refine ⟨rfl, ?_⟩ | refine Sub.int rfl (by omega) ?_))
    · simp only [e1, e2]; exact List.Sublist.cons _ (List.Sublist.refl _)
  · have hs1 := split_step (l := l) (k := k) (by omega)
    have h46' : l.getD k 0 ≠ 46 := fun e => by
      have : (l.getD k 0).toNat = 46 := by rw [e]; rfl
      omega
    rw [if_neg h46'] at hs1
    have e1 : (splitDots (l.take (k + 1))).length = m := by rw [hs1]; simp [← hm]; omega
    have e2 := encs_last (ps := splitDots (l.take k)) (m := m - 1) (by omega) ((splitDots (l.take k)).getLastD [] ++ [l.getD k 0])
    rw [← hs1] at e2
    have e3 : List.take (((k : Int) + 1).toNat - (k : Int).toNat) (l.drop (k : Int).toNat) = [l.getD k 0] := by
      rw [show ((k : Int) + 1).toNat - (k : Int).toNat = 1 by omega, show (k : Int).toNat = k by omega, List.drop_eq_getElem_cons (by omega), List.getD_eq_getElem?_getD, List.getElem?_eq_getElem (by omega)]; rfl
    have e4 : 0 + ((m : Int) - 1).toNat * 1 = m - 1 := by omega
    refine N.round (k + 1, b, c) (by show k + 1 ≤ _; omega) (by show l.length - (k + 1) < l.length - k; omega) ?_ rfl ?_
    · simp only [e1]; (repeat (first | exact True.intro | refine ⟨rfl, ?_⟩ | refine Sub.int rfl (by omega) ?_))
    · simp only [e1, ← e2, e3]
      show List.Sublist _ [Loc.row _ _ _ _ (putCells _ (0 + ((m : Int) - 1).toNat * 1) _)]
      rw [e4]
      exact List.Sublist.refl _
  · have hkl : k = l.length := by omega
    subst hkl
    rw [List.take_length] at *
    refine N.ret1 rfl (by (exact rvx)) fun w1 hs1 => ?_
    obtain ⟨H', s, hv, hels, hg, hle, hst⟩ := hs1.freezeRow (α := Bytes) rfl hm.symm (fun x hx => by
      have := splitDots_len l x hx
      show x.length ≤ _; omega)
    exact ⟨(H', s), ⟨hels, hg⟩, by rw [← hv], hst.fresh⟩
theorem nameOK_fwd (l : Bytes) : nameOK l = true ↔ (l = [46] ∨ (l.length ≤ 60 ∧ (splitDots l).length ≤ 8 ∧ ∀ j (h : j < (splitDots l).length), isLab (splitDots l)[j] = true ∨ (j = 0 ∧ (splitDots l)[j] = [42]))) := by
  unfold nameOK
  cases hp : splitDots l with
  | nil => exact absurd hp (splitDots_ne l)
  | cons q r =>
    simp only [Bool.or_eq_true, Bool.and_eq_true, decide_eq_true_eq, List.tail_cons, List.all_eq_true]
    constructor
    · rintro (h | ⟨⟨⟨h1, h2⟩, h3⟩, h4⟩)
      · exact .inl h
      · refine .inr ⟨h1, h2, fun j hj => ?_⟩
        cases j with
        | zero =>
          rcases h3 with h | h
          · exact .inl h
          · exact .inr ⟨rfl, h⟩
        | succ j => exact .inl (h4 _ (List.getElem_mem _))
    · rintro (h | ⟨h1, h2, h3⟩)
      · exact .inl h
      · refine .inr ⟨⟨⟨h1, h2⟩, ?_⟩, fun x hx => ?_⟩
        · rcases h3 0 (by simp) with h | ⟨_, h⟩
          · exact .inl h
          · exact .inr h
        · obtain ⟨j, hj, rfl⟩ := List.mem_iff_getElem.1 hx
          rcases h3 (j + 1) (by simp; omega) with h | ⟨h, _⟩
          · exact h
          · omega
theorem nameOK_fno {l : Bytes} (h : ¬ (l = [46] ∨ (l.length ≤ 60 ∧ (splitDots l).length ≤ 8 ∧ ∀ j (h : j < (splitDots l).length), isLab (splitDots l)[j] = true ∨ (j = 0 ∧ (splitDots l)[j] = [42])))) : nameOK l = false := by
  rw [← nameOK_fwd] at h; simpa using h
set_option maxHeartbeats 1000000 in
theorem c_nameValid01 (l : Bytes) (H : Hp) (w : World) (hs : Sat H w) (hl : LenOk l) : Calls Tryz.prog 118 #[strV l] w (Ret w (.bool (nameOK l))) := by
  have hl' : l.length ≤ 9223372036854775807 := hl
  refine T.enter (vs := [strV l]) (H := H) Tryz.func118 rfl rfl rfl hs ?_
  repeat (any_goals (first | refine T.seq ?_ | refine T.region ?_ | refine TL.nil ?_ | refine N.next ?_ | refine N.ret_then ?_ | refine T.ret ?_ | refine T.skip ?_ | refine T.block ?_ | (apply T.test; rfl; (exact isx); intro _; rotate_left; intro _; rotate_right) | (apply TL.x; rfl; rfl; (apply X.callF0 (f := 141) Tryz.call141; rfl; rfl; (exact fun _ hs => c_Split _ _ _ hs.sat (by omega))); intro _ _) | (apply TL.val; rfl; rfl; (first | exact vpure | exact vread))))
  all_goals (try (first | (apply N.ret_bool; rfl; (exact rvx)) | (apply N.ret_int; rfl; (exact rvx)) | (apply N.ret_val; rfl; (exact rvx))))
  · rename_i h; rw [h, nameOK_dot]
  · rename_i hd h; exact (nameOK_no (by rintro (h1 | ⟨h1, _⟩); exact hd h1; omega)).symm
  · rename_i hd h60 p hp
    obtain ⟨H1, s⟩ := p
    obtain ⟨⟨hels, hg⟩, hle⟩ := hp
    simp only at hels hg hle ⊢
    have hlen := hg.len
    have hlim := hg.lim
    have hcnt := splitDots_count l
    rw [hels] at hlen
    refine T.loop (G := Nat) (fun k => [(0, strV l), (3, s.v), (4, intV k)]) (fun _ => H1) (fun _ => []) (fun k => k ≤ s.len ∧ ∀ j (h : j < (splitDots l).length), j < k → isLab (splitDots l)[j] = true ∨ (j = 0 ∧ (splitDots l)[j] = [42])) (fun k => s.len - k) 0 ⟨Nat.zero_le _, fun j _ h => by omega⟩ (by (repeat (first | exact True.intro | refine ⟨rfl, ?_⟩ | refine Sub.int rfl (by omega) ?_))) rfl (by (first | exact List.Sublist.refl _ | exact List.nil_sublist _ | exact List.Sublist.cons _ (List.Sublist.refl _) | exact List.Sublist.cons _ (List.Sublist.cons _ (List.Sublist.refl _)))) ?_
    rintro k ⟨hk, hrel⟩
    have hx : ∀ _ : k < s.len, LenOk (s.els[k]'(by rw [hg.len]; omega)) := fun h => hg.el h
    have hxe : ∀ h : k < s.len, s.els[k]'(by rw [hg.len]; omega) = (splitDots l)[k]'(by omega) := fun h => by simp [hels]
    repeat (any_goals (first | refine T.seq ?_ | refine T.region ?_ | refine TL.nil ?_ | refine N.next ?_ | refine N.inBlock ?_ | refine N.exit_same ?_ | refine N.exit_then ?_ | refine N.ret_then ?_ | refine N.ret_block ?_ | refine T.ret ?_ | refine T.skip ?_ | refine T.exit ?_ | refine T.block ?_ | (apply T.cond_true; rfl) | (apply T.cond_false; rfl) | (apply T.test; rfl; (exact isx); intro _; rotate_left; intro _; rotate_right) | (apply TL.skip; rfl; rfl; rfl) | (apply TL.call0 (f := 142) Tryz.call142; rfl; rfl; rfl; (exact fun _ hs => c_Label _ _ _ hs.sat (hx (by omega)))) | (apply TL.val; rfl; rfl; (first | exact vpure | exact vread)) | (apply TL.guard; rfl; rfl; rfl; (exact isx); intro _; rotate_left; intro _; rotate_right)))
    all_goals (try (first | (apply N.ret_bool; rfl; (exact rvx)) | (apply N.ret_int; rfl; (exact rvx)) | (apply N.ret_val; rfl; (exact rvx))))
    all_goals (try (refine N.round (k + 1) ?_ ?_ ?_ ?_ ?_; rotate_left 2; (repeat (first | exact True.intro | refine ⟨rfl, ?_⟩ | refine Sub.int rfl (by omega) ?_)); rfl; (first | exact List.Sublist.refl _ | exact List.nil_sublist _ | exact List.Sublist.cons _ (List.Sublist.refl _) | exact List.Sublist.cons _ (List.Sublist.cons _ (List.Sublist.refl _)))))
    all_goals first
      | omega
      | skip
    · rename_i h1 h2 h3
      rw [hxe (by omega)] at h2
      refine (nameOK_fno ?_).symm
      rintro (h | ⟨_, _, h⟩)
      · exact hd h
      · rcases h k (by omega) with h | ⟨h, _⟩
        · exact absurd (h2.symm.trans h) (by simp)
        · omega
    · rename_i h1 h2 h3 h4
      rw [hxe (by omega)] at h2 h4
      refine (nameOK_fno ?_).symm
      rintro (h | ⟨_, _, h⟩)
      · exact hd h
      · rcases h k (by omega) with h | ⟨_, h⟩
        · exact absurd (h2.symm.trans h) (by simp)
        · exact h4 h
    · rename_i h1 h2 h3 h4
      rw [hxe (by omega)] at h4
      exact ⟨by omega, fun j hj hjk => by
        by_cases e : j = k
        · subst e; exact .inr ⟨by omega, h4⟩
        · exact hrel j hj (by omega)⟩
    · rename_i h1 h2
      rw [hxe (by omega)] at h2
      exact ⟨by omega, fun j hj hjk => by
        by_cases e : j = k
        · subst e; exact .inl h2
        · exact hrel j hj (by omega)⟩
    · by_cases h8 : (splitDots l).length ≤ 8
      · rw [decide_eq_true (by omega), (nameOK_fwd l).2 (.inr ⟨by omega, h8, fun j hj => hrel j hj (by omega)⟩)]
      · rw [decide_eq_false (by omega), nameOK_fno (by rintro (h | ⟨_, h, _⟩); exact hd h; exact h8 h)]
end Go.Proofs.YthabgdbhgcgemaaGreatDoor
