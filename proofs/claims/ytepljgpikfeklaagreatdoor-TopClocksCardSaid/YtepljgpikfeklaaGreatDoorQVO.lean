import Derived.Test.YtepljgpikfeklaaGreatDoorQNK
import Derived.Lib.Bytealg
import Derived.Test.YtepljgpikfeklaaGreatDoorQTMap
import Derived.Test.YtepljgpikfeklaaGreatDoorQEngR
import Derived.Lib.Builder
import Derived.Lib.UnsafeStr
namespace Go.Proofs.YtepljgpikfeklaaGreatDoor
set_option linter.unusedVariables false
set_option linter.unusedSimpArgs false
open Go Go.RowKit
set_option maxRecDepth 20000
section
variable {P : Program} {n : FK} {S : World → Prop} {env : List (Nat × Value)}
theorem V.callExtZ {f : FuncId} {args : Array Operand} {tys : Array TypeId} {vs : List Value} {v : Value} (hargs : evs env args.toList = some vs) (hcall : ∀ w, (callFunc f vs.toArray).run P w = .ok (.value v) w) : V P n S env (.call { callee := .value (.func f), args := args, argTypes := tys }) v :=
  ⟨fun o a w ho hf _ => by
    have h1 := hf.evs hargs
    have : args.map a.eval = vs.toArray := by apply Array.toList_inj.1; simpa using h1
    unfold execOp
    rw [ho]
    simp [resolve, Act.eval, Deferred.ofValue, invoke, this, hcall]⟩
end
theorem cmpB_eq : ∀ (a b : Bytes), Lib.compareBytes a b = cmpS a b
  | [], [] => rfl
  | [], _ :: _ => by simp [Lib.compareBytes, cmpS, Op.bytesLess]
  | _ :: _, [] => by simp [Lib.compareBytes, cmpS, Op.bytesLess]
  | x :: a, y :: b => by
    have ih := cmpB_eq a b
    have hlt : ∀ u v : UInt8, u < v → ¬ v < u ∧ u ≠ v := fun u v h => ⟨fun k => UInt8.lt_irrefl _ (UInt8.lt_trans h k), fun e => by subst e; exact UInt8.lt_irrefl _ h⟩
    unfold Lib.compareBytes cmpS
    rw [ih]
    unfold cmpS
    simp only [Op.bytesLess, Bool.or_eq_true, decide_eq_true_eq, Bool.and_eq_true, beq_iff_eq, List.cons.injEq]
    by_cases h1 : x < y
    · simp [h1]
    · by_cases h2 : y < x
      · have := hlt _ _ h2
        simp [h1, h2, Ne.symm this.2]
      · have : x = y := by
          have a1 := UInt8.not_lt.1 h1
          have a2 := UInt8.not_lt.1 h2
          exact UInt8.le_antisymm a2 a1
        subst this
        simp [h1]
theorem extCmp (a b : Bytes) (w : World) : (callFunc 209 [strV a, strV b].toArray).run Tryz.prog w = .ok (.value (intV (cmpS a b))) w := by
  rw [run_callFunc_extern (e := Extern.BytealgCompare.compare) Tryz.func209 (by rfl) (by rfl) (by rfl) (by rfl)]
  rw [show #[strV a, strV b] = #[Value.string ⟨a.toArray⟩, Value.string ⟨b.toArray⟩] from rfl, Lib.run_compareString, cmpB_eq]
  rfl
theorem c_strCompare (a b : Bytes) {H : Hp} {w : World} (hs : Sat H w) : Calls Tryz.prog 167 #[strV a, strV b] w (Ret w (intV (cmpS a b))) := by
  have h0 : ∀ {w : World}, Sat H w → Calls Tryz.prog 200 #[strV a, strV b] w (Ret w (intV (cmpS a b))) := fun {w} hs => by
    refine T.enter (vs := [strV a, strV b]) (H := H) Tryz.func200 rfl rfl rfl hs ?_
    repeat (any_goals (first | refine T.seq ?_ | refine T.region ?_ | refine TL.nil ?_ | refine N.next ?_ | refine T.ret ?_ | (apply TL.val; rfl; rfl; (apply V.callExtZ; rfl; exact extCmp a b)) | (apply TL.val; rfl; rfl; (first | exact vpure | exact vread))))
    exact N.ret_int rfl (by (exact rvx)) rfl
  refine T.enter (vs := [strV a, strV b]) (H := H) Tryz.func167 rfl rfl rfl hs ?_
  repeat (any_goals (first | refine T.seq ?_ | refine T.region ?_ | refine TL.nil ?_ | refine N.next ?_ | refine T.ret ?_ | (apply TL.callE (f := 200) [strV a, strV b] Tryz.call200; (iterate 4 rfl); (exact fun _ hs => h0 hs.sat)) | (apply TL.val; rfl; rfl; (first | exact vpure | exact vread))))
  exact N.ret_int rfl (by (exact rvx)) rfl
structure PullSt (l : Bytes) (k : Nat) (rest : Bytes) (more : Bool) : Prop where
  len : LenOk rest
  le : k ≤ (labs l).length
  on : more = true → (labs l).drop k = (splitDots rest).reverse
  off : more = false → k = (labs l).length
theorem pull0 {l : Bytes} (hl : LenOk l) : PullSt l 0 l (!decide (l = [46])) := by
  refine ⟨hl, Nat.zero_le _, fun h => ?_, fun h => ?_⟩
  · have hd : l ≠ [46] := by simpa using h
    unfold labs; rw [if_neg hd]; rfl
  · have hd : l = [46] := by simpa using h
    unfold labs; rw [if_pos hd]; rfl
theorem PullSt.lt {l : Bytes} {k : Nat} {rest : Bytes} (h : PullSt l k rest true) : k < (labs l).length := by
  rcases Nat.lt_or_ge k (labs l).length with h1 | h1
  · exact h1
  · have := h.on rfl
    rw [List.drop_eq_nil_of_le h1] at this
    have h2 := congrArg List.length this
    rw [List.length_reverse] at h2
    exact absurd (List.length_eq_zero_iff.1 h2.symm) (splitDots_ne _)
abbrev boolB (b : Nat) (v : Bool) : Loc := .blk b 4 [.bool v]
abbrev strB (b : Nat) (s : Bytes) : Loc := .blk b 9 [strV s]
abbrev pullV (bm br : Nat) : Value := .func (.func 199) #[] #[.pointer (some ⟨bm, 0, none⟩), .pointer (some ⟨br, 0, none⟩)]
section
variable {l rest : Bytes} {k c1 c2 c3 t3 bm br : Nat} {v1 v2 : Obj} {vs : List Value} {w0 w : World} {H0 H : Hp} {TT : List Loc}
theorem c_pullNo (hs : St w0 H0 H (.any c1 v1 :: .any c2 v2 :: .blk c3 t3 vs :: boolB bm false :: strB br rest :: TT) w) : CallsIn (FW none) 0 Tryz.prog 199 #[.pointer (some ⟨bm, 0, none⟩), .pointer (some ⟨br, 0, none⟩)] w (fun e w' => ∃ _g : Unit, True ∧ e = .returned (.tuple #[strV [], .bool false]) ∧ St w0 H0 H (.any c1 v1 :: .any c2 v2 :: .blk c3 t3 vs :: boolB bm false :: strB br rest :: TT) w') := by
  refine T.enterIn (vs := [.pointer (some ⟨bm, 0, none⟩), .pointer (some ⟨br, 0, none⟩)]) Tryz.func199 rfl rfl rfl hs ?_
  repeat (any_goals (first | refine T.seq ?_ | refine T.region ?_ | refine TL.nil ?_ | refine N.next ?_ | refine N.ret_then ?_ | refine T.ret ?_ | (apply T.cond_true; rfl) | (apply TL.val; rfl; rfl; (first | exact vpure | exact vread))))
  apply N.ret2; rfl; (exact rvx); (exact rvx)
  intro w1 hst
  exact ⟨(), trivial, rfl, hst⟩
theorem c_pullYes (h : PullSt l k rest true) (hs : St w0 H0 H (.any c1 v1 :: .any c2 v2 :: .blk c3 t3 vs :: boolB bm true :: strB br rest :: TT) w) : CallsIn (FW none) 0 Tryz.prog 199 #[.pointer (some ⟨bm, 0, none⟩), .pointer (some ⟨br, 0, none⟩)] w (fun e w' => ∃ g : Bool × Bytes, PullSt l (k + 1) g.2 g.1 ∧ e = .returned (.tuple #[strV ((labs l)[k]'h.lt), .bool true]) ∧ St w0 H0 H (.any c1 v1 :: .any c2 v2 :: .blk c3 t3 vs :: boolB bm g.1 :: strB br g.2 :: TT) w') := by
  have hr := h.len
  have hr' : rest.length ≤ 9223372036854775807 := hr
  have hkl := h.lt
  have hk := h.on rfl
  refine T.enterIn (vs := [.pointer (some ⟨bm, 0, none⟩), .pointer (some ⟨br, 0, none⟩)]) Tryz.func199 rfl rfl rfl hs ?_
  rcases split_last rest with ⟨hv, hsp⟩ | ⟨i, hi, hv, hsp⟩
  · have hlab : (labs l)[k] = rest := by
      have := congrArg (fun x : List Bytes => x[0]?) hk
      simp only [hsp, List.getElem?_drop, Nat.add_zero] at this
      rw [List.getElem?_eq_getElem hkl] at this
      simpa using this
    have hlen : (labs l).length - k = 1 := by rw [← List.length_drop, hk, hsp]; rfl
    repeat (any_goals (first | refine T.seq ?_ | refine T.region ?_ | refine TL.nil ?_ | refine N.next ?_ | refine T.ret ?_ | refine T.skip ?_ | (apply T.cond_true; rfl) | (apply T.cond_false; rfl) | (apply TL.callE (f := 145) [strV rest, .int .u8 46] Tryz.call145; (iterate 4 rfl); (exact fun _ hs => c_last _ 46 _ _ hs.sat hr _ hv)) | (apply TL.val; rfl; rfl; (first | exact vpure | exact vread)) | (apply TL.x; rfl; rfl; (first | exact xgrow | exact xput); intro _ _)))
    apply N.ret2; rfl; (exact rvx); (exact rvx)
    intro w1 hst
    refine ⟨(false, rest), ⟨hr, by omega, (fun h => by cases h), fun _ => by omega⟩, ?_, hst⟩
    rw [hlab]; rfl
  · have hrev : (splitDots rest).reverse = rest.drop (i + 1) :: (splitDots (rest.take i)).reverse := by rw [hsp, List.reverse_append]; rfl
    rw [hrev, List.drop_eq_getElem_cons hkl] at hk
    obtain ⟨hlab, hk'⟩ := List.cons.inj hk
    repeat (any_goals (first | refine T.seq ?_ | refine T.region ?_ | refine TL.nil ?_ | refine N.next ?_ | refine T.ret ?_ | refine T.skip ?_ | (apply T.cond_false; rfl) | (apply TL.callE (f := 145) [strV rest, .int .u8 46] Tryz.call145; (iterate 4 rfl); (exact fun _ hs => c_last _ 46 _ _ hs.sat hr _ hv)) | (apply TL.val; rfl; rfl; (first | exact vpure | exact vread)) | (apply TL.x; rfl; rfl; (first | exact xgrow | exact xput); intro _ _)))
    apply N.ret2; rfl; (exact rvx); (exact rvx)
    intro w1 hst
    refine ⟨(true, rest.take i), ⟨by show (rest.take i).length ≤ _; simp; omega, by omega, fun _ => hk', fun h => by cases h⟩, ?_, hst⟩
    rw [hlab, show ((i : Int) + 1).toNat = i + 1 by omega]
end
theorem c_puller (l : Bytes) (H : Hp) (w : World) (hs : Sat H w) : Calls Tryz.prog 166 #[strV l] w (RetO w H (fun _ : Nat × Nat => True) (fun g => pullV g.1 g.2) (fun _ => H) (fun g => [boolB g.1 (!decide (l = [46])), strB g.2 l])) := by
  refine T.enter (vs := [strV l]) (H := H) Tryz.func166 rfl rfl rfl hs ?_
  repeat (any_goals (first | refine T.seq ?_ | refine T.region ?_ | refine TL.nil ?_ | refine N.next ?_ | refine T.ret ?_ | (apply TL.val; rfl; rfl; ((apply V.makeFunc (vs := []) (us := [_, _]) <;> rfl))) | (apply TL.val; rfl; rfl; (first | exact vpure | exact vread)) | (apply TL.x; rfl; rfl; (first | exact xgrow | exact xput); intro _ _)))
  apply N.ret1; rfl; (exact rvx)
  intro w1 hst
  exact ⟨(_, _), trivial, rfl, hst⟩
def cmpLL (rd : LoopState → Option Code → Loop) (b b8 bm br b5 b4 : Nat) : Bool × Bytes × Option Int → List Loc
  | (more, rest, none) => [.any (b + 1) (.loop (rd .ready none)), .any b (.deferred (some [])), .blk b8 221 [pullV bm br], boolB bm more, strB br rest, .blk b5 39 [intV 0], .blk b4 3 [intV 0]]
  | (more, rest, some r) => [.any (b + 1) (.loop (rd .done (some .ret))), .any b (.deferred (some [])), .blk b8 221 [pullV bm br], boolB bm more, strB br rest, .blk b5 39 [intV 0], .blk b4 3 [intV r]]
set_option maxHeartbeats 4000000 in
theorem c_CompareN (a c : Bytes) (ha : nameOK a = true) (hc : nameOK c = true) {H : Hp} {w : World} (hs : Sat H w) : Calls Tryz.prog 126 #[strV a, strV c] w (Ret w (.tuple #[intV (ordN a c), intV 0])) := by
  have hal : a.length ≤ 60 := name_len60 ha
  have hcl : c.length ≤ 60 := name_len60 hc
  have hal' : LenOk a := by show _ ≤ 9223372036854775807; omega
  have hcl' : LenOk c := by show _ ≤ 9223372036854775807; omega
  refine T.enterM (vs := [strV a, strV c]) (H := H) Tryz.func126 rfl rfl rfl hs ?_
  repeat (any_goals (first | refine T.seq ?_ | refine T.region ?_ | refine TL.nil ?_ | refine N.next ?_ | refine N.ret_then ?_ | refine T.ret ?_ | refine T.skip ?_ | refine T.block ?_ | (apply T.cond_false; rfl) | (apply T.test; rfl; (exact isx); intro _; rotate_left; intro _; rotate_right) | (apply TL.callE (f := 99) [strV a] Tryz.call99; (iterate 4 rfl); (exact fun _ hs => ha ▸ c_textValid a _ _ hs.sat hal')) | (apply TL.callE (f := 99) [strV c] Tryz.call99; (iterate 4 rfl); (exact fun _ hs => hc ▸ c_textValid c _ _ hs.sat hcl')) | (apply TL.x; rfl; rfl; (apply X.callO0 (f := 166) Tryz.call166; rfl; rfl; (exact fun _ hs => c_puller _ _ _ hs.sat)); intro _ _) | (apply TL.val; rfl; rfl; ((apply V.makeFunc (vs := [_]) (us := []) <;> rfl))) | (apply TL.val; rfl; rfl; (first | exact vpure | exact vread)) | (apply TL.x; rfl; rfl; (first | exact xgrow | exact xput); intro _ _)))
  all_goals (try contradiction)
  · rename_i hac _ _ _ _
    subst hac
    exact N.bare (N.ret_two rfl (by (exact rvx)) (by (exact rvx)) (by rw [show ordN a a = 0 from lexL_self _]))
  · rename_i b4 _ b5 _ hac p hp b8 _ _ _
    obtain ⟨bm, br⟩ := p
    obtain ⟨A, hA⟩ : ∃ A, labs a = A := ⟨_, rfl⟩
    obtain ⟨C, hC⟩ : ∃ C, labs c = C := ⟨_, rfl⟩
    have hne : A ≠ C := fun e => hac (labs_inj ha hc (by rw [hA, hC, e]))
    have hord : ordN a c = lexL A C := by unfold ordN; rw [hA, hC]
    rw [hord]
    refine T.rangeFunc (G := Bool × Bytes × Option Int) (fun g => match g.2.2 with | none => .normal | some _ => .ret) (fun _ => H) (fun g => [.blk b8 221 [pullV bm br], boolB bm g.1, strB br g.2.1, .blk b5 39 [intV 0], .blk b4 3 [intV (g.2.2.getD 0)]]) (fun g => g.2.2.getD (-1) = lexL A C) rfl Tryz.call104 (fun g _ => by obtain ⟨_, _, _ | _⟩ := g <;> trivial) ?_ ?_
    · intro fn ac b hf w1 hs1
      refine (c_backwards a hal' (G := Bool × Bytes × Option Int) (fun k g => g.2.2 = none ∧ PullSt c k g.2.1 g.1 ∧ A.take k = C.take k) (fun g => ∃ r, g.2.2 = some r ∧ r = lexL A C) (fun _ => H) (cmpLL (recd fn ac.tmps _ _ _ b) b b8 bm br b5 b4) ?_ (_, _, none) ⟨rfl, pull0 hcl', rfl⟩ hs1).mono ?_
      · rintro k ⟨more, rest, _⟩ ⟨rfl, hp1, htk⟩ hk w2 hs2
        simp only at hp1
        have hkA : k < A.length := by rw [← hA]; exact hk
        have hkC : k ≤ C.length := by rw [← hC]; exact hp1.le
        have hx : (labs a)[k] = A[k] := by subst hA; rfl
        rw [hx]
        refine yieldAt_of (i := 0) hs2 rfl rfl _ (Fr.round1 hf rfl) (env₁ := [(4, .pointer (some ⟨b4, 0, none⟩)), (5, .pointer (some ⟨b5, 0, none⟩)), (8, .pointer (some ⟨b8, 0, none⟩)), (10, strV A[k])]) ?_ ?_
        · repeat (any_goals (first | refine T.region ?_ | refine TL.nil ?_ | (apply TL.val; rfl; rfl; (first | exact vpure | exact vread))))
          exact N.both (by (repeat (first | exact True.intro | refine ⟨rfl, ?_⟩ | refine Sub.int rfl (by omega) ?_)))
        · simp only [cmpLL, List.set_cons_zero]
          cases more with
          | false =>
            have hkc := hp1.off rfl
            rw [hC] at hkc
            have hl : lexL A C = 1 := by rw [lexL_end (by omega) hkC htk (by omega), if_neg (by omega), if_pos (by omega)]
            repeat (any_goals (first | refine T.seq ?_ | refine T.region ?_ | refine TL.nil ?_ | refine N.next ?_ | refine N.ret_then ?_ | refine N.ret_block ?_ | refine T.ret ?_ | refine T.block ?_ | (apply T.cond_true; rfl) | (apply TL.x; rfl; rfl; (apply X.callS; rfl; rfl; rfl; exact Tryz.call199; exact fun _ hs => c_pullNo hs); intro _ _) | (apply TL.x; rfl; rfl; (apply X.store 6; (iterate 9 rfl)); intro _ _) | (apply TL.x; rfl; rfl; (apply X.store 5; (iterate 9 rfl)); intro _ _) | (apply TL.val; rfl; rfl; (first | exact vpure | exact vread))))
            all_goals (try contradiction)
            refine N.round_out (i := 0) (e := .ret) trivial rfl fun w hs => ⟨false, (false, rest, some 1), rfl, ?_, hs⟩
            rw [if_neg (by simp)]
            exact ⟨1, rfl, hl.symm⟩
          | true =>
            have hkc : k < C.length := by rw [← hC]; exact hp1.lt
            have hy : (labs c)[k]'hp1.lt = C[k] := by subst hC; rfl
            by_cases hz : cmpS A[k] C[k] = 0
            · repeat (any_goals (first | refine T.seq ?_ | refine T.region ?_ | refine TL.nil ?_ | refine N.next ?_ | refine N.inBlock ?_ | refine T.skip ?_ | refine T.block ?_ | (apply T.cond_false; rfl) | (apply TL.x; rfl; rfl; (apply X.callS; rfl; rfl; rfl; exact Tryz.call199; exact fun _ hs => hy ▸ c_pullYes hp1 hs); intro _ _) | (apply TL.callE (f := 167) [strV A[k], strV C[k]] Tryz.call167; (iterate 4 rfl); (exact fun _ hs => hz ▸ c_strCompare A[k] C[k] hs.sat)) | (apply TL.val; rfl; rfl; (first | exact vpure | exact vread))))
              all_goals (try contradiction)
              refine N.round_out (i := 0) (e := .normal) trivial rfl fun w hs => ⟨true, (_, _, none), rfl, ?_, hs⟩
              rw [if_pos rfl]
              exact ⟨rfl, by assumption, take_next hkA hkc htk (cmpS_zero.1 hz)⟩
            · repeat (any_goals (first | refine T.seq ?_ | refine T.region ?_ | refine TL.nil ?_ | refine N.next ?_ | refine N.inBlock ?_ | refine N.ret_block ?_ | refine T.ret ?_ | refine T.skip ?_ | refine T.block ?_ | (apply T.cond_false; rfl) | (apply T.test; rfl; (exact isx); intro _; rotate_left; intro _; rotate_right) | (apply TL.x; rfl; rfl; (apply X.callS; rfl; rfl; rfl; exact Tryz.call199; exact fun _ hs => hy ▸ c_pullYes hp1 hs); intro _ _) | (apply TL.callE (f := 167) [strV A[k], strV C[k]] Tryz.call167; (iterate 4 rfl); (exact fun _ hs => c_strCompare A[k] C[k] hs.sat)) | (apply TL.x; rfl; rfl; (apply X.store 6; (iterate 9 rfl)); intro _ _) | (apply TL.x; rfl; rfl; (apply X.store 5; (iterate 9 rfl)); intro _ _) | (apply TL.val; rfl; rfl; (first | exact vpure | exact vread))))
              all_goals (try contradiction)
              refine N.round_out (i := 0) (e := .ret) trivial rfl fun w hs => ⟨false, (_, _, some (cmpS A[k] C[k])), rfl, ?_, hs⟩
              rw [if_neg (by simp)]
              exact ⟨_, rfl, (lexL_at hkA hkc htk (fun e => hz (cmpS_zero.2 e))).symm⟩
      · rintro e w2 ⟨v, ⟨more, rest, res⟩, rfl, (⟨h1, hp1, htk⟩ | ⟨r, h1, hr⟩), hs2⟩
        · simp only at h1
          subst h1
          have hkC : A.length ≤ C.length := by rw [← hC, ← hA]; exact hp1.le
          refine ⟨(more, rest, none), v, .ready, rfl, ?_, by simp, hs2⟩
          rw [hA] at htk
          rw [lexL_end (Nat.le_refl _) hkC htk (by omega), if_pos]
          · rfl
          · rcases Nat.lt_or_ge A.length C.length with h | h
            · exact h
            · rw [List.take_length, List.take_of_length_le h] at htk
              exact absurd htk hne
        · simp only at h1
          subst h1
          exact ⟨(more, rest, some r), v, .done, rfl, hr, by simp, hs2⟩
    · rintro b ⟨more, rest, res⟩ hg
      cases res with
      | none =>
        show N _ _ _ _ .normal _ _ _
        repeat (any_goals (first | refine T.seq ?_ | refine T.region ?_ | refine TL.nil ?_ | refine N.next ?_ | refine N.inBlock ?_ | refine T.ret ?_ | (apply TL.x; rfl; rfl; (first | exact xgrow | exact xput); intro _ _)))
        exact N.marked (i := 0) rfl (N.ret_two rfl (by (exact rvx)) (by (exact rvx)) (by rw [← hg]; rfl))
      | some r =>
        show N _ _ _ _ .ret _ _ _
        repeat (any_goals (first | refine N.ret_then ?_ | refine N.ret_block ?_))
        exact N.marked (i := 0) rfl (N.ret_two rfl (by (exact rvx)) (by (exact rvx)) (by rw [← hg]; rfl))
end Go.Proofs.YtepljgpikfeklaaGreatDoor
namespace Go.Proofs.YtepljgpikfeklaaGreatDoor
set_option linter.unusedVariables false
set_option linter.unusedSimpArgs false
open Go Go.RowKit
set_option maxRecDepth 20000
section
variable {P : Program} {n : FK} {w0 w : World} {H0 H : Hp} {Q : Exit → Act → World → Prop} {env : List (Nat × Value)} {L : List Loc}
theorem V.ptrNilT {S : World → Prop} {t te u : TypeId} {x : Operand} (hp : P.underlying t = some (.pointer te)) {j : TypeInfo} (hte : P.info? te = some j) (hx : ev env x = some (.pointer none)) {y : Operand} (hy : ev env y = some (.pointer none)) : V P n S env (.binOp .eql t x y u) (.bool true) :=
  ⟨fun o a w ho hf _ => by
    have h : ∀ d : Nat, (Op.equalIn (d + 1) t (.pointer none) (.pointer none)).run P w = .ok true w := fun d => by
      simp [Op.equalIn, run_underlying hp, sizeOf, typeInfo, hte]
    unfold execOp; rw [ho]
    simp [hf.ev hx, hf.ev hy, binOp, eqGuard, Op.equal, Op.maxDepth, h 9999]⟩
theorem V.ptrNilF {S : World → Prop} {t te u : TypeId} {x : Operand} {b : Nat} (hp : P.underlying t = some (.pointer te)) {j : TypeInfo} (hte : P.info? te = some j) (hx : ev env x = some (.pointer (some ⟨b, 0, none⟩))) {y : Operand} (hy : ev env y = some (.pointer none)) : V P n S env (.binOp .eql t x y u) (.bool false) :=
  ⟨fun o a w ho hf _ => by
    have h : ∀ d : Nat, (Op.equalIn (d + 1) t (.pointer (some ⟨b, 0, none⟩)) (.pointer none)).run P w = .ok false w := fun d => by
      simp [Op.equalIn, run_underlying hp, sizeOf, typeInfo, hte]
    unfold execOp; rw [ho]
    simp [hf.ev hx, hf.ev hy, binOp, eqGuard, Op.equal, Op.maxDepth, h 9999]⟩
theorem V.ptrNeq {S : World → Prop} {t te u : TypeId} {x y : Operand} {b : Nat} (hp : P.underlying t = some (.pointer te)) {j : TypeInfo} (hte : P.info? te = some j) (hx : ev env x = some (.pointer (some ⟨b, 0, none⟩))) (hy : ev env y = some (.pointer (some ⟨b, 0, none⟩))) : V P n S env (.binOp .neq t x y u) (.bool false) :=
  ⟨fun o a w ho hf _ => by
    unfold execOp; rw [ho]
    simp [hf.ev hx, hf.ev hy, eqGuard, Lib.run_neq_ptr_same w ⟨b, 0, none⟩ hp hte]⟩
theorem V.toUnsafe {t u te : TypeId} {x : Operand} {b : Nat} {T : TypeId} {cs : List Value} (hs : P.underlying t = some (.pointer te)) (hd : P.underlying u = some .unsafePointer) {j : TypeInfo} (ht : P.info? te = some j) (hj : j.size ≠ 0) (hx : ev env x = some (.pointer (some ⟨b, 0, none⟩))) (hm : Loc.blk b T cs ∈ L) (hl : 0 < cs.length) : V P n (St w0 H0 H L) env (.convert t u x) (.pointer (some ⟨b, 0, none⟩)) :=
  ⟨fun o a w ho hf hst => by
    have hb := (hst.ok _ hm).2
    unfold execOp; rw [ho]
    simp only [hf.ev hx, Sem.run_bind, Lib.run_to_unsafe w ⟨b, 0, none⟩ hs hd ht hj (e := T) (cells := cs.length) (by simp [World.shape?, hb]) hl]
    rfl⟩
theorem V.fromUnsafe {t u te : TypeId} {x : Operand} {b : Nat} {T : TypeId} {cs : List Value} (hs : P.underlying t = some .unsafePointer) (hd : P.underlying u = some (.pointer te)) {j : TypeInfo} (ht : P.info? te = some j) (hx : ev env x = some (.pointer (some ⟨b, 0, none⟩))) (hm : Loc.blk b T cs ∈ L) (hlies : liesAt P P.depth T (cs.length / P.cellsOf T) 0 te 1 = true) : V P n (St w0 H0 H L) env (.convert t u x) (.pointer (some ⟨b, 0, none⟩)) :=
  ⟨fun o a w ho hf hst => by
    have hb := (hst.ok _ hm).2
    unfold execOp; rw [ho]
    simp only [hf.ev hx, Sem.run_bind, Lib.run_from_unsafe w ⟨b, 0, none⟩ hs hd ht (e := T) (cells := cs.length) (by simp [World.shape?, hb]) hlies]
    rfl⟩
theorem V.sliceData {S : World → Prop} {tys : Array TypeId} {x : Operand} {a : Addr} {m c : Nat} (hx : ev env x = some (.slice (some a) m c)) (hc : Nat.beq c 0 = false) : V P n S env (.call { callee := .builtin .unsafeSliceData, args := #[x], argTypes := tys }) (.pointer (some a)) :=
  ⟨fun o a' w ho hf _ => by
    have hc' : c ≠ 0 := fun e => by subst e; simp at hc
    unfold execOp; rw [ho]
    simp [resolve, invoke, builtin, hf.ev hx, Lib.run_unsafeSliceData_row w tys o.type a m c hc']⟩
theorem St.forget {w' : World} (hs : St w0 H0 H L w) {i b : Nat} {e : Loc} (hi : L[i]? = some e) (hb : e.at = some b) (hk : ∀ k, k ≠ b → w'.heap[k]? = w.heap[k]?) (hsz : w'.heap.size = w.heap.size) (hos : w'.os = w.os) (htape : w'.tape = w.tape) (hout : w'.output = w.output) (hdr : w.drawn ≤ w'.drawn) : St w0 H0 H (L.eraseIdx i) w' := by
  have hlt := (hs.ok e (List.mem_of_getElem? hi)).lt hb
  have hlt' : b < w'.heap.size := by rw [hsz]; exact hlt.1
  have h1 := hs.set (e' := .any b w'.heap[b]) hi hb rfl hk hsz hos htape hout hdr ⟨hlt.2, Array.getElem?_eq_getElem hlt'⟩
  refine h1.sub ?_
  have : (L.set i (.any b w'.heap[b])).eraseIdx i = L.eraseIdx i := by rw [List.eraseIdx_set_eq]
  rw [← this]
  exact List.eraseIdx_sublist ..
theorem X.unsafeString [Tys P] (i : Nat) {d : Nat} {pt it e ty : TypeId} {x y : Operand} {pos : String} {after : Array Edge} {g : Option (Nat × Bool)} {q c : Nat} {l : Bytes} (hn : Nat.blt d n.n = true) (hp : P.underlying pt = some (.pointer e)) (hc : P.cellsOf e = 1) (h0 : l ≠ [])
    (hx : ev env x = some (.pointer (some ⟨q, 0, none⟩))) (hy : ev env y = some (intV l.length)) (hi : L[i]? = some (byR e (.slice (some ⟨q, 0, none⟩) l.length c) l)) :
    X P n w0 H0 env H L ⟨some d, .call { callee := .builtin .unsafeString, args := #[x, y], argTypes := #[pt, it] }, ty, pos, after, g⟩ false (G := Unit) (fun _ => True) (fun _ => (d, strV l) :: env) (fun _ => H) (fun _ => L.eraseIdx i) :=
  ⟨fun a w hf hs K Q hK => by
    obtain ⟨cur, h1, h2, h3, h4, h5, h6, h7⟩ := hs.row_get (List.mem_of_getElem? hi)
    simp only [Nat.mul_one] at h6 h7
    have hrun := Lib.run_unsafeString_row (P := P) w pt it ty e hp hc q cur.size (by simp [World.shape?, h1]) l h0 (by omega) (by simp only [maxLen] at h5; omega) (fun j u hj => by
      rw [Addr.add_mid, Nat.zero_add]
      refine hs.row_cell (List.mem_of_getElem? hi) ?_
      have := encs_get (α := UInt8) l j 0 u (.int .u8 u.toNat) hj rfl
      rw [show j * Enc.size UInt8 + 0 = j from by show j * 1 + 0 = j; omega] at this
      exact this)
    unfold Oper.wp
    have : (execOp a.eval ⟨some d, .call { callee := .builtin .unsafeString, args := #[x, y], argTypes := #[pt, it] }, ty, pos, after, g⟩).run P w = .ok (.value (strV l)) (w.freeze ⟨q, 0, none⟩ l.length) := by
      unfold execOp
      simp [resolve, invoke, builtin, hf.ev hx, hf.ev hy]
      have hr := hrun
      unfold intV at hr ⊢
      simp [hr]
    rw [this]
    refine hK () _ _ trivial (fun h => by cases h) (hf.put hn _) (hs.forget hi (b := q) rfl (fun k hk => ?_) ?_ ?_ ?_ ?_ (Nat.le_of_eq (freeze_drawn _ _ _).symm))
    · unfold World.freeze
      split
      · rfl
      · simp only [Array.getElem?_modify]; rw [if_neg (Ne.symm hk)]
    · unfold World.freeze; split <;> simp
    · unfold World.freeze; split <;> rfl
    · unfold World.freeze; split <;> rfl
    · unfold World.freeze; split <;> rfl⟩
theorem TL.rowShape {ops rest : List Oper} (i : Nat) {v : Value} {e : TypeId} {size m : Nat} {xs : List Value} (hi : L[i]? = some (.row v e size m xs)) (h0 : v = .slice none 0 0 → TL P n w0 H0 ops Q rest env H L) (h1 : ∀ g c, v = .slice (some ⟨g, 0, none⟩) m c → TL P n w0 H0 ops Q rest env H L) : TL P n w0 H0 ops Q rest env H L :=
  ⟨fun a w hf hs => by
    rcases (show w.ownsRow w0.heap.size e size v m xs from hs.ok _ (List.mem_of_getElem? hi)).2 with ⟨hv, _⟩ | ⟨g, c, cur, hv, _⟩
    · exact (h0 hv).out a w hf hs
    · exact (h1 g c hv).out a w hf hs⟩
end
structure BL (b : Nat) (LL : Value → Value → Value → Bytes → List Loc) (i j : Nat) : Prop where
  hi : ∀ p v u l, (LL p v u l)[i]? = some (.blk b 150 [p, v])
  hj : ∀ p v u l, (LL p v u l)[j]? = some (byR 5 u l)
  si : ∀ p v u l q v', (LL p v u l).set i (.blk b 150 [q, v']) = LL q v' u l
  sj : ∀ p v u l u' l', (LL p v u l).set j (byR 5 u' l') = LL p v u' l'
theorem BL.cons {b : Nat} {LL : Value → Value → Value → Bytes → List Loc} {i j : Nat} (B : BL b LL i j) (e : Loc) : BL b (fun p v u l => e :: LL p v u l) (i + 1) (j + 1) :=
  ⟨fun p v u l => B.hi p v u l, fun p v u l => B.hj p v u l, fun p v u l q v' => congrArg (e :: ·) (B.si p v u l q v'), fun p v u l u' l' => congrArg (e :: ·) (B.sj p v u l u' l')⟩
def bptr (b : Nat) : Value := .pointer (some ⟨b, 0, none⟩)
section
variable {w0 w : World} {H0 H : Hp} {b : Nat} {LL : Value → Value → Value → Bytes → List Loc} {i j : Nat}
theorem info_builder : ∃ j, Tryz.prog.info? 150 = some j ∧ j.size = 2 := by
  obtain ⟨i, hi, e1, _⟩ := (tyk_ok (P := Tryz.prog) (t := 150) rfl).get
  exact ⟨i, hi, e1⟩
theorem lies_builder : liesAt Tryz.prog Tryz.prog.depth 150 (2 / Tryz.prog.cellsOf 150) 0 150 1 = true := by kernel_rfl
theorem c_copyCheck (B : BL b LL i j) {p v : Value} {l : Bytes} (hp : p = .pointer none ∨ p = bptr b) (hs : St w0 H0 H (LL p v v l) w) :
    CallsIn (FW none) 0 Tryz.prog 135 [bptr b].toArray w (fun e w' => ∃ _ : Unit, True ∧ e = .returned (.tuple #[]) ∧ St w0 H0 H (LL (bptr b) v v l) w') := by
  have hm : ∀ p v u l, Loc.blk b 150 [p, v] ∈ LL p v u l := fun p v u l => List.mem_of_getElem? (B.hi p v u l)
  obtain ⟨jB, hj1, hj2⟩ := info_builder
  refine T.enterIn (vs := [bptr b]) Tryz.func135 rfl rfl rfl hs ?_
  unfold bptr at *
  rcases hp with rfl | rfl
  · repeat (any_goals (first | refine T.seq ?_ | refine T.region ?_ | refine TL.nil ?_ | refine N.next ?_ | (apply T.cond_true; rfl) | (apply TL.val; rfl; rfl; (apply V.nilCheck; rfl)) | (apply TL.val; rfl; rfl; (apply V.load_loc; rfl; rfl; rfl; exact hm _ _ _ _; rfl)) | (apply TL.val; rfl; rfl; (exact V.ptrNilT Tryz.underlying147 hj1 rfl rfl)) | (apply TL.val; rfl; rfl; (exact V.toUnsafe Tryz.underlying147 Tryz.underlying228 hj1 (by rw [hj2]; decide) rfl (hm _ _ _ _) (Nat.zero_lt_succ 1))) | (apply TL.val; rfl; rfl; (apply V.callExtZ (vs := [.pointer (some ⟨b, 0, none⟩)]) (v := .pointer (some ⟨b, 0, none⟩)); rfl; intro w; rfl)) | (apply TL.val; rfl; rfl; (exact V.fromUnsafe Tryz.underlying228 Tryz.underlying147 hj1 rfl (hm _ _ _ _) lies_builder)) | (apply TL.x; rfl; rfl; (apply X.storeTo i [.pointer (some ⟨b, 0, none⟩), v]; rfl; rfl; rfl; exact B.hi _ _ _ _; (iterate 5 rfl); exact B.si _ _ _ _ _ _); intro _ _) | (apply TL.val; rfl; rfl; (first | exact vpure | exact vread))))
    all_goals (try contradiction)
    exact N.end0 rfl fun w hs => ⟨(), trivial, rfl, hs⟩
  · repeat (any_goals (first | refine T.seq ?_ | refine T.region ?_ | refine TL.nil ?_ | refine N.next ?_ | refine T.skip ?_ | (apply T.cond_false; rfl) | (apply TL.val; rfl; rfl; (apply V.nilCheck; rfl)) | (apply TL.val; rfl; rfl; (apply V.load_loc; rfl; rfl; rfl; exact hm _ _ _ _; rfl)) | (apply TL.val; rfl; rfl; (exact V.ptrNilF Tryz.underlying147 hj1 rfl rfl)) | (apply TL.val; rfl; rfl; (exact V.ptrNeq Tryz.underlying147 hj1 rfl rfl)) | (apply TL.val; rfl; rfl; (first | exact vpure | exact vread))))
    all_goals (try contradiction)
    exact N.end0 rfl fun w hs => ⟨(), trivial, rfl, hs⟩
set_option maxHeartbeats 1000000 in
theorem c_WriteString (B : BL b LL i j) (s : Bytes) {p v : Value} {l : Bytes} (hp : p = .pointer none ∨ p = bptr b) (hb : l.length + s.length ≤ 100000000) (hs : St w0 H0 H (LL p v v l) w) :
    CallsIn (FW none) 0 Tryz.prog 77 [bptr b, strV s].toArray w (fun e w' => ∃ v' : Value, True ∧ e = .returned (.tuple #[intV s.length, .nilIface]) ∧ St w0 H0 H (LL (bptr b) v' v' (l ++ s)) w') := by
  have hm : ∀ p v u l, Loc.blk b 150 [p, v] ∈ LL p v u l := fun p v u l => List.mem_of_getElem? (B.hi p v u l)
  refine T.enterIn (vs := [bptr b, strV s]) Tryz.func77 rfl rfl rfl hs ?_
  unfold bptr at *
  repeat (any_goals (first | refine T.seq ?_ | refine T.region ?_ | refine TL.nil ?_ | refine N.next ?_ | refine T.ret ?_ | (apply TL.x; rfl; rfl; (apply X.callB [.pointer (some ⟨b, 0, none⟩)] (f := 135); (iterate 4 rfl); exact Tryz.call135; exact fun _ hs => c_copyCheck B hp hs); intro _ _) | (apply TL.val; rfl; rfl; (apply V.nilCheck; rfl)) | (apply TL.val; rfl; rfl; (apply V.load_loc; rfl; rfl; rfl; exact hm _ _ _ _; rfl)) | (apply TL.x; rfl; rfl; (apply X.appendStr j (l := l) (s := s); (iterate 10 rfl); exact B.hj _ _ _ _; rfl; exact hb); intro v' _; rw [B.sj]; refine TL.rowShape j (B.hj _ _ _ _) ?_ ?_; (intro e; subst e); rotate_left; (intro g c e; subst e); rotate_right) | (apply TL.x; rfl; rfl; (apply X.storeTo i [.pointer (some ⟨b, 0, none⟩), _]; rfl; rfl; rfl; exact B.hi _ _ _ _; (iterate 5 rfl); exact B.si _ _ _ _ _ _); intro _ _) | (apply TL.val; rfl; rfl; (first | exact vpure | exact vread))))
  all_goals (try contradiction)
  all_goals first
    | exact N.ret2 rfl (by (exact rvx)) (by (exact rvx)) fun w hs => ⟨_, trivial, rfl, hs⟩
    | trace_state
set_option maxHeartbeats 1000000 in
theorem c_WriteByte (B : BL b LL i j) (u : UInt8) {p v : Value} {l : Bytes} (hp : p = .pointer none ∨ p = bptr b) (hb : l.length ≤ 100000000) (hs : St w0 H0 H (LL p v v l) w) :
    CallsIn (FW none) 0 Tryz.prog 78 [bptr b, .int .u8 u.toNat].toArray w (fun e w' => ∃ v' : Value, True ∧ e = .returned .nilIface ∧ St w0 H0 H (LL (bptr b) v' v' (l ++ [u])) w') := by
  have hm : ∀ p v u l, Loc.blk b 150 [p, v] ∈ LL p v u l := fun p v u l => List.mem_of_getElem? (B.hi p v u l)
  refine T.enterIn (vs := [bptr b, .int .u8 u.toNat]) Tryz.func78 rfl rfl rfl hs ?_
  unfold bptr at *
  repeat (any_goals (first | refine T.seq ?_ | refine T.region ?_ | refine TL.nil ?_ | refine N.next ?_ | refine T.ret ?_ | (apply TL.x; rfl; rfl; (apply X.callB [.pointer (some ⟨b, 0, none⟩)] (f := 135); (iterate 4 rfl); exact Tryz.call135; exact fun _ hs => c_copyCheck B hp hs); intro _ _) | (apply TL.val; rfl; rfl; (apply V.nilCheck; rfl)) | (apply TL.val; rfl; rfl; (apply V.load_loc; rfl; rfl; rfl; exact hm _ _ _ _; rfl)) | (apply TL.x; rfl; rfl; (apply X.buildSlice1 (d := 13); (iterate 8 rfl)); intro b13 _) | (apply TL.x; rfl; rfl; (apply X.appendBy (j + 1) (l := l) (u := u); (iterate 8 rfl); exact B.hj _ _ _ _; rfl; exact List.Mem.head _; exact hb); intro v' _; (have hsj : ∀ e p v u u' l l', (e :: LL p v u l).set (j + 1) (byR 5 u' l') = e :: LL p v u' l' := fun e p v u u' l l' => congrArg (e :: ·) (B.sj p v u l u' l')); rw [hsj]; refine TL.rowShape (j + 1) (B.hj _ _ _ _) ?_ ?_; (intro e; subst e); rotate_left; (intro g c e; subst e); rotate_right) | (apply TL.x; rfl; rfl; (apply X.storeTo (i + 1) [.pointer (some ⟨b, 0, none⟩), _]; rfl; rfl; rfl; exact B.hi _ _ _ _; (iterate 5 rfl); exact congrArg (_ :: ·) (B.si _ _ _ _ _ _)); intro _ _) | (apply TL.val; rfl; rfl; (first | exact vpure | exact vread))))
  all_goals (try contradiction)
  all_goals first
    | exact N.ret1 rfl (by (exact rvx)) fun w hs => ⟨_, trivial, rfl, hs.sub (List.sublist_cons_self _ _)⟩
    | trace_state
set_option maxHeartbeats 1000000 in
theorem c_BString (B : BL b LL i j) {p v : Value} {l : Bytes} (h0 : l ≠ []) (hs : St w0 H0 H (LL p v v l) w) :
    CallsIn (FW none) 0 Tryz.prog 82 [bptr b].toArray w (fun e w' => ∃ _ : Unit, True ∧ e = .returned (strV l) ∧ St w0 H0 H ((LL p v v l).eraseIdx j) w') := by
  have hm : ∀ p v u l, Loc.blk b 150 [p, v] ∈ LL p v u l := fun p v u l => List.mem_of_getElem? (B.hi p v u l)
  obtain ⟨q, c, hv, hc⟩ : ∃ q c, v = .slice (some ⟨q, 0, none⟩) l.length c ∧ Nat.beq c 0 = false := by
    rcases (show w.ownsRow w0.heap.size 5 1 v l.length (encs l) from hs.ok _ (List.mem_of_getElem? (B.hj p v v l))).2 with ⟨_, e⟩ | ⟨g, c, cur, rfl, _, _, h3, _⟩
    · exact absurd (List.eq_nil_of_length_eq_zero e) h0
    · refine ⟨g, c, rfl, ?_⟩
      have : 0 < l.length := List.length_pos_iff.2 h0
      cases c with
      | zero => omega
      | succ c => rfl
  subst hv
  refine T.enterIn (vs := [bptr b]) Tryz.func82 rfl rfl rfl hs ?_
  unfold bptr at *
  repeat (any_goals (first | refine T.seq ?_ | refine T.region ?_ | (apply T.regionD wide; rfl) | refine TL.nil ?_ | refine N.next ?_ | refine T.ret ?_ | (apply GT.pure; (iterate 4 rfl); (apply V.nilCheck; rfl); decide +kernel) | (apply GT.read; (iterate 4 rfl); (apply V.load_loc; rfl; rfl; rfl; exact hm _ _ _ _; rfl); decide +kernel) | (apply GT.pure; (iterate 4 rfl); (apply V.sliceData; rfl; exact hc); decide +kernel) | (apply GS.eff; rfl; decide +kernel; rfl; (apply X.unsafeString j (l := l) (e := 5); rfl; exact Tryz.underlying198; (show _ = 1; kernel_rfl); exact h0; rfl; rfl; exact B.hj _ _ _ _); intro _ _) | (apply TL.val; rfl; rfl; (first | exact vpure | exact vread)) | (apply GT.pure; (iterate 4 rfl); (first | exact vpure); decide +kernel) | (apply GT.done; decide +kernel; apply N.ofQ) | (apply GT.adv; rfl) | (apply GT.fork1; decide +kernel)))
  all_goals (try contradiction)
  all_goals first
    | exact N.ret1 rfl (by (exact rvx)) fun w hs => ⟨(), trivial, rfl, hs⟩
    | trace_state
end
end Go.Proofs.YtepljgpikfeklaaGreatDoor
