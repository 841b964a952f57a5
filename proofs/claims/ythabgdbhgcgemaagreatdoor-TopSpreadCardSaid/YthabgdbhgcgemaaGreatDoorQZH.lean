import Derived.Test.YthabgdbhgcgemaaGreatDoorQZF
import Derived.Test.YthabgdbhgcgemaaGreatDoorQNA
import Derived.Test.YthabgdbhgcgemaaGreatDoorQEngC
import Derived.Test.YthabgdbhgcgemaaGreatDoorQTMap
import Derived.Lib.Bytealg
namespace Go.Proofs.YthabgdbhgcgemaaGreatDoor
set_option linter.unusedVariables false
set_option linter.unusedSimpArgs false
open Go Go.RowKit
open Enc (enc)
set_option maxRecDepth 20000
theorem c_S06 (s : Slc Sig) (apex : Bytes) {v : Bool} (h : sigsForm s.els apex = v) {H : Hp} {w : World} (hs : Sat H w) (hg : s.Good H) (ha : LenOk apex) : Calls Tryz.prog 126 #[s.v, strV apex] w (Ret w (.bool v)) := h ▸ c_Sigs06 s apex H w hs hg ha
set_option maxHeartbeats 8000000 in
theorem c_five06 (z : ZoneV) (hO : OneZ z.c) {H : Hp} {w : World} (hs : Sat H w) (hz : Enc.good H z) : Calls Tryz.prog 70 #[.agg (enc z).toArray] w (Tells w (FiveZ z.c (behRZ z.c))) := by
  have hzl := hz.2.len
  refine T.enter (vs := [.agg (enc z).toArray]) (H := H) Tryz.func70 rfl rfl rfl hs ?_
  repeat (any_goals (first | refine T.seq ?_ | refine T.region ?_ | refine TL.nil ?_ | refine N.next ?_ | refine T.block ?_ | (apply TL.x; rfl; rfl; (apply X.box (d := 1); rfl; rfl; rfl); intro b1 _) | (apply TL.x; rfl; rfl; (apply X.callFE (f := 125) [.agg (enc z).toArray] Tryz.call125; rfl; rfl; rfl; exact (fun _ hs => c_Own06 z hO hs.sat hz)); intro p hp) | (apply TL.val; rfl; rfl; (first | exact vpure | exact vread))))
  obtain ⟨⟨hpe, hpg⟩, hple⟩ := hp
  have hplen := hpg.len
  have hBl := behT_len z
  have hOl : (ownsOf (behT (behRZ z.c)) z.sets.els).length = z.sets.els.length := by unfold ownsOf; rw [List.length_map, List.length_zip]; omega
  rw [hpe] at hplen
  have hzg := Enc.mono hple hz
  have hlim := hzg.2.lim
  refine T.loop (G := Nat) (fun i => [(1, .pointer (some ⟨b1, 0, none⟩)), (3, p.2.v), (4, intV i)]) (fun _ => p.1) (fun i => [.blk b1 32 (enc z)]) (fun i => i ≤ z.sets.len ∧ ∀ j (hj : j < z.sets.els.length), j < i → fiveOK z.apex ((behRZ z.c)[j]?.getD none) z.sets.els[j].c) (fun i => z.sets.len - i) 0 ⟨Nat.zero_le _, fun j _ h => by omega⟩ (by (repeat (first | exact True.intro | refine ⟨rfl, ?_⟩ | refine Sub.int rfl (by omega) ?_))) rfl (by (repeat (first | exact List.Sublist.refl _ | exact List.nil_sublist _ | apply List.Sublist.cons_cons | apply List.Sublist.cons))) ?_
  rintro i ⟨hi, hrel⟩
  by_cases hlt : i < z.sets.len
  · have hiz : i < z.sets.els.length := by omega
    have hip : i < p.2.els.length := by rw [hpe]; omega
    obtain ⟨bo, hbo⟩ : ∃ bo, (behRZ z.c)[i]?.getD none = bo := ⟨_, rfl⟩
    have hsm := behT_small (z := z.c) (i := i) hO
    rw [hbo] at hsm
    obtain ⟨x, hx⟩ : ∃ x, z.sets.els[i]'hiz = x := ⟨_, rfl⟩
    have hoe : p.2.els[i] = own1 (bo.getD []) x := by
      have h1 := ownsOf_at (B := behT (behRZ z.c)) (l := z.sets.els) (i := i) (by omega) hiz (by omega)
      rw [behT_at (by omega), hbo, hx] at h1
      simp only [hpe, h1]
    obtain ⟨ov, hov⟩ : ∃ ov, own1 (bo.getD []) x = ov := ⟨_, rfl⟩
    rw [hov] at hoe
    have hoc := hpg.cell (k := i) (j := 0) (by omega) (v := .bool ov) (by rw [hoe]; rfl)
    have hsg := hzg.2.els _ (List.getElem_mem hiz)
    rw [hx] at hsg
    have hsc := hzg.2.cell (k := i) (j := 4) hlt (v := x.sigs.v) (by show some (z.sets.els[i]'hiz).sigs.v = _; rw [hx])
    have hsl := hsg.2.len
    obtain ⟨fv, hfv⟩ : ∃ fv, sigsForm x.sigs.els z.apex = fv := ⟨_, rfl⟩
    have hown : ov = false → bo ≠ none ∧ (x.set.typ = 2 ∨ x.set.typ = 1) := fun h => by
      rw [← hov] at h
      unfold own1 at h
      rw [Bool.or_eq_false_iff, decide_eq_false_iff_not] at h
      refine ⟨fun h' => h.1 (hsm.2 h'), ?_⟩
      have := h.2
      rw [Bool.and_eq_false_iff] at this
      rcases this with h2 | h2
      · exact .inl (by simpa using h2)
      · exact .inr (by simpa using h2)
    have hown2 : ov = true → bo ≠ none → (x.set.typ = 2 ∨ x.set.typ = 1) → False := fun h h1 h2 => by
      rw [← hov] at h
      unfold own1 at h
      rw [Bool.or_eq_true, decide_eq_true_iff] at h
      rcases h with h | h
      · exact h1 (hsm.1 h)
      · rw [Bool.and_eq_true] at h
        rcases h2 with h2 | h2
        · rw [decide_eq_true h2] at h; cases h.1
        · rw [decide_eq_true h2] at h; cases h.2
    repeat (any_goals (first | refine T.seq ?_ | refine T.region ?_ | (apply T.regionD wide; rfl) | refine TL.nil ?_ | refine N.next ?_ | refine N.inBlock ?_ | refine N.exit_same ?_ | refine N.exit_then ?_ | refine N.ret_then ?_ | refine N.ret_block ?_ | refine T.ret ?_ | refine T.skip ?_ | refine T.exit ?_ | refine T.block ?_ | (apply T.cond_true; rfl) | (apply T.cond_false; rfl) | (apply T.test; rfl; (exact isx); intro _; rotate_left; intro _; rotate_right) | (apply GT.skip; rfl; rfl; rfl; decide +kernel) | (apply GT.pure; (iterate 4 rfl); (apply V.elem (j := i); (iterate 6 rfl); omega; exact hzg.2.at_ (by omega)); decide +kernel) | (apply GT.pure; (iterate 4 rfl); (apply V.elem (j := i); (iterate 6 rfl); omega; exact hpg.at_ (by omega)); decide +kernel) | (apply GT.read; (iterate 4 rfl); (apply V.load_H; rfl; rfl; rfl; first | exact hsc | exact hoc); decide +kernel) | (apply GT.callE (f := 126) [x.sigs.v, strV z.apex] Tryz.call126; (iterate 6 rfl); (exact fun _ hs => c_S06 x.sigs z.apex hfv hs.sat hsg.2 hzg.1); decide +kernel) | (apply TL.val; rfl; rfl; (first | exact vpure | exact vread)) | (apply GT.pure; (iterate 4 rfl); (first | exact vpure); decide +kernel) | (apply GT.read; (iterate 4 rfl); (first | exact vpure | exact vread); decide +kernel) | (apply GT.done; decide +kernel; apply N.ofQ) | (apply GT.guard; (iterate 4 rfl); (exact isx); intro _; rotate_left; intro _; rotate_right)))
    all_goals (try contradiction)
    all_goals (try (exfalso; omega))
    all_goals first
      | exact N.tellF rfl (by (exact rvx))
      | (refine N.round (i + 1) ⟨by show i + 1 ≤ _; omega, fun j hj hjk => ?_⟩ (by show z.sets.len - (i + 1) < z.sets.len - i; omega) (by (repeat (first | exact True.intro | refine ⟨rfl, ?_⟩ | refine Sub.int rfl (by omega) ?_))) rfl (by (repeat (first | exact List.Sublist.refl _ | exact List.nil_sublist _ | apply List.Sublist.cons_cons | apply List.Sublist.cons)))
         by_cases e : j = i
         · subst e
           rw [hbo]
           simp only [hx]
           refine ⟨hfv.trans (by assumption), fun h1 h2 => ?_⟩
           show x.sigs.els = []
           first
             | exact absurd h2 (fun h2 => hown2 (by assumption) h1 h2)
             | exact List.length_eq_zero_iff.1 (by omega)
         · exact hrel j hj (by omega))
  · have hie : i = z.sets.len := by omega
    subst hie
    repeat (any_goals (first | refine T.seq ?_ | refine T.region ?_ | (apply T.regionD wide; rfl) | refine TL.nil ?_ | refine N.next ?_ | refine N.exit_same ?_ | refine N.exit_then ?_ | refine T.ret ?_ | refine T.skip ?_ | refine T.exit ?_ | refine T.block ?_ | (apply T.test; rfl; (exact isx); intro _; rotate_left; intro _; rotate_right) | (apply TL.val; rfl; rfl; (first | exact vpure | exact vread)) | (apply GT.pure; (iterate 4 rfl); (first | exact vpure); decide +kernel) | (apply GT.read; (iterate 4 rfl); (first | exact vpure | exact vread); decide +kernel) | (apply GT.fork2 6; decide +kernel)))
    all_goals (try (exfalso; omega))
    refine N.tellT rfl (by (exact rvx)) fun i hi => ?_
    have h1 : i < z.sets.els.length := by rw [← setsC_len]; exact hi
    rw [setsC_at hi h1]
    exact hrel i h1 (by omega)
set_option maxHeartbeats 2000000 in
theorem c_Valid06 (z : ZoneV) {H : Hp} {w : World} (hs : Sat H w) (hz : Enc.good H z) : Calls Tryz.prog 30 #[.agg (enc z).toArray] w (Tells w (ZonedR z.c)) := by
  refine T.enter (vs := [.agg (enc z).toArray]) (H := H) Tryz.func30 rfl rfl rfl hs ?_
  repeat (any_goals (first | refine T.seq ?_ | refine T.region ?_ | refine TL.nil ?_ | refine N.next ?_ | refine T.ret ?_ | (apply TL.skip; rfl; rfl; rfl) | (apply TL.x; rfl; rfl; (apply X.box (d := 1); rfl; rfl; rfl); intro b1 _) | (apply TL.x; rfl; rfl; (apply X.callG (f := 66) [.agg (enc z).toArray] Tryz.call66; rfl; rfl; rfl; exact (fun _ hs => c_one06 z hs.sat hz)); intro v1 hv1) | (apply TL.x; rfl; rfl; (apply X.callG (f := 67) [.agg (enc z).toArray] Tryz.call67; rfl; rfl; rfl; exact (fun _ hs => c_two06 z hs.sat hz)); intro v2 hv2) | (apply TL.x; rfl; rfl; (apply X.callG (f := 68) [.agg (enc z).toArray] Tryz.call68; rfl; rfl; rfl; exact (fun _ hs => c_Three06 z (hv1 (by assumption)) hs.sat hz)); intro v3 hv3) | (apply TL.x; rfl; rfl; (apply X.callG (f := 69) [.agg (enc z).toArray] Tryz.call69; rfl; rfl; rfl; exact (fun _ hs => c_Four06 z (hv1 (by assumption)) hs.sat hz)); intro v4 hv4) | (apply TL.x; rfl; rfl; (apply X.callG (f := 70) [.agg (enc z).toArray] Tryz.call70; rfl; rfl; rfl; exact (fun _ hs => c_five06 z (hv1 (by assumption)) hs.sat hz)); intro v5 hv5) | (apply TL.val; rfl; rfl; (first | exact vpure | exact vread)) | (apply TL.guard; rfl; rfl; rfl; (exact isx); intro _; rotate_left; intro _; rotate_right)))
  all_goals (try contradiction)
  all_goals first
    | exact N.tellF rfl (by (exact rvx))
    | exact N.tell rfl (by (exact rvx)) (fun h5 => ⟨hv1 (by assumption), hv2 (by assumption), hv3 (by assumption), hv4 (by assumption), hv5 h5⟩)
end Go.Proofs.YthabgdbhgcgemaaGreatDoor
namespace Go.Proofs.YthabgdbhgcgemaaGreatDoor
set_option linter.unusedVariables false
set_option linter.unusedSimpArgs false
open Go Go.RowKit
set_option maxRecDepth 20000
section
variable {P : Program} {n : FK} {S : World → Prop} {env : List (Nat × Value)}
theorem V.callExtZ {f : FuncId} {args : Array Operand} {tys : Array TypeId} {vs : List Value} {v : Value} (hargs : evs env args.toList = some vs) (hcall : ∀ w, (callFunc f vs.toArray).run P w = .ok (.value v) w) : V P n S env (.call { callee := .value (.func f), args := args, argTypes := tys }) v :=
  ⟨fun o a w ho hf _ => by
    have h1 := hf.evs hargs
    have : args.map a.eval = vs.toArray := by apply Array.toList_inj.1; simpa using h1
    unfold execOp
    rw [ho]
    simp [resolve, Act.eval, Deferred.ofValue, invoke, this, hcall]⟩
end
theorem cmpB_eq : ∀ (a b : Bytes), Lib.compareBytes a b = cmpS a b
  | [], [] => rfl
  | [], _ :: _ => by simp [Lib.compareBytes, cmpS, Op.bytesLess]
  | _ :: _, [] => by simp [Lib.compareBytes, cmpS, Op.bytesLess]
  | x :: a, y :: b => by
    have ih := cmpB_eq a b
    have hlt : ∀ u v : UInt8, u < v → ¬ v < u ∧ u ≠ v := fun u v h => ⟨fun k => UInt8.lt_irrefl _ (UInt8.lt_trans h k), fun e => by subst e; exact UInt8.lt_irrefl _ h⟩
    unfold Lib.compareBytes cmpS
    rw [ih]
    unfold cmpS
    simp only [Op.bytesLess, Bool.or_eq_true, decide_eq_true_eq, Bool.and_eq_true, beq_iff_eq, List.cons.injEq]
    by_cases h1 : x < y
    · simp [h1]
    · by_cases h2 : y < x
      · have := hlt _ _ h2
        simp [h1, h2, Ne.symm this.2]
      · have : x = y := by
          have a1 := UInt8.not_lt.1 h1
          have a2 := UInt8.not_lt.1 h2
          exact UInt8.le_antisymm a2 a1
        subst this
        simp [h1]
theorem extCmp (a b : Bytes) (w : World) : (callFunc 198 [strV a, strV b].toArray).run Tryz.prog w = .ok (.value (intV (cmpS a b))) w := by
  rw [run_callFunc_extern (e := Extern.BytealgCompare.compare) Tryz.func198 (by rfl) (by rfl) (by rfl) (by rfl)]
  rw [show #[strV a, strV b] = #[Value.string ⟨a.toArray⟩, Value.string ⟨b.toArray⟩] from rfl, Lib.run_compareString, cmpB_eq]
  rfl
theorem c_strCompare (a b : Bytes) {H : Hp} {w : World} (hs : Sat H w) : Calls Tryz.prog 161 #[strV a, strV b] w (Ret w (intV (cmpS a b))) := by
  have h0 : ∀ {w : World}, Sat H w → Calls Tryz.prog 188 #[strV a, strV b] w (Ret w (intV (cmpS a b))) := fun {w} hs => by
    refine T.enter (vs := [strV a, strV b]) (H := H) Tryz.func188 rfl rfl rfl hs ?_
    repeat (any_goals (first | refine T.seq ?_ | refine T.region ?_ | refine TL.nil ?_ | refine N.next ?_ | refine T.ret ?_ | (apply TL.val; rfl; rfl; (apply V.callExtZ; rfl; exact extCmp a b)) | (apply TL.val; rfl; rfl; (first | exact vpure | exact vread))))
    exact N.ret_int rfl (by (exact rvx)) rfl
  refine T.enter (vs := [strV a, strV b]) (H := H) Tryz.func161 rfl rfl rfl hs ?_
  repeat (any_goals (first | refine T.seq ?_ | refine T.region ?_ | refine TL.nil ?_ | refine N.next ?_ | refine T.ret ?_ | (apply TL.callE (f := 188) [strV a, strV b] Tryz.call188; (iterate 4 rfl); (exact fun _ hs => h0 hs.sat)) | (apply TL.val; rfl; rfl; (first | exact vpure | exact vread))))
  exact N.ret_int rfl (by (exact rvx)) rfl
structure PullSt (l : Bytes) (k : Nat) (rest : Bytes) (more : Bool) : Prop where
  len : LenOk rest
  le : k ≤ (labs l).length
  on : more = true → (labs l).drop k = (splitDots rest).reverse
  off : more = false → k = (labs l).length
theorem pull0 {l : Bytes} (hl : LenOk l) : PullSt l 0 l (!decide (l = [46])) := by
  refine ⟨hl, Nat.zero_le _, fun h => ?_, fun h => ?_⟩
  · have hd : l ≠ [46] := by simpa using h
    unfold labs; rw [if_neg hd]; rfl
  · have hd : l = [46] := by simpa using h
    unfold labs; rw [if_pos hd]; rfl
theorem PullSt.lt {l : Bytes} {k : Nat} {rest : Bytes} (h : PullSt l k rest true) : k < (labs l).length := by
  rcases Nat.lt_or_ge k (labs l).length with h1 | h1
  · exact h1
  · have := h.on rfl
    rw [List.drop_eq_nil_of_le h1] at this
    have h2 := congrArg List.length this
    rw [List.length_reverse] at h2
    exact absurd (List.length_eq_zero_iff.1 h2.symm) (splitDots_ne _)
abbrev boolB (b : Nat) (v : Bool) : Loc := .blk b 4 [.bool v]
abbrev strB (b : Nat) (s : Bytes) : Loc := .blk b 9 [strV s]
abbrev pullV (bm br : Nat) : Value := .func (.func 186) #[] #[.pointer (some ⟨bm, 0, none⟩), .pointer (some ⟨br, 0, none⟩)]
section
variable {l rest : Bytes} {k c1 c2 c3 t3 bm br : Nat} {v1 v2 : Obj} {vs : List Value} {w0 w : World} {H0 H : Hp} {TT : List Loc}
theorem c_pullNo (hs : St w0 H0 H (.any c1 v1 :: .any c2 v2 :: .blk c3 t3 vs :: boolB bm false :: strB br rest :: TT) w) : CallsIn (FW none) 0 Tryz.prog 186 #[.pointer (some ⟨bm, 0, none⟩), .pointer (some ⟨br, 0, none⟩)] w (fun e w' => ∃ _g : Unit, True ∧ e = .returned (.tuple #[strV [], .bool false]) ∧ St w0 H0 H (.any c1 v1 :: .any c2 v2 :: .blk c3 t3 vs :: boolB bm false :: strB br rest :: TT) w') := by
  refine T.enterIn (vs := [.pointer (some ⟨bm, 0, none⟩), .pointer (some ⟨br, 0, none⟩)]) Tryz.func186 rfl rfl rfl hs ?_
  repeat (any_goals (first | refine T.seq ?_ | refine T.region ?_ | refine TL.nil ?_ | refine N.next ?_ | refine N.ret_then ?_ | refine T.ret ?_ | (apply T.cond_true; rfl) | (apply TL.val; rfl; rfl; (first | exact vpure | exact vread))))
  apply N.ret2; rfl; (exact rvx); (exact rvx)
  intro w1 hst
  exact ⟨(), trivial, rfl, hst⟩
theorem c_pullYes (h : PullSt l k rest true) (hs : St w0 H0 H (.any c1 v1 :: .any c2 v2 :: .blk c3 t3 vs :: boolB bm true :: strB br rest :: TT) w) : CallsIn (FW none) 0 Tryz.prog 186 #[.pointer (some ⟨bm, 0, none⟩), .pointer (some ⟨br, 0, none⟩)] w (fun e w' => ∃ g : Bool × Bytes, PullSt l (k + 1) g.2 g.1 ∧ e = .returned (.tuple #[strV ((labs l)[k]'h.lt), .bool true]) ∧ St w0 H0 H (.any c1 v1 :: .any c2 v2 :: .blk c3 t3 vs :: boolB bm g.1 :: strB br g.2 :: TT) w') := by
  have hr := h.len
  have hr' : rest.length ≤ 9223372036854775807 := hr
  have hkl := h.lt
  have hk := h.on rfl
  refine T.enterIn (vs := [.pointer (some ⟨bm, 0, none⟩), .pointer (some ⟨br, 0, none⟩)]) Tryz.func186 rfl rfl rfl hs ?_
  rcases split_last rest with ⟨hv, hsp⟩ | ⟨i, hi, hv, hsp⟩
  · have hlab : (labs l)[k] = rest := by
      have := congrArg (fun x : List Bytes => x[0]?) hk
      simp only [hsp, List.getElem?_drop, Nat.add_zero] at this
      rw [List.getElem?_eq_getElem hkl] at this
      simpa using this
    have hlen : (labs l).length - k = 1 := by rw [← List.length_drop, hk, hsp]; rfl
    repeat (any_goals (first | refine T.seq ?_ | refine T.region ?_ | refine TL.nil ?_ | refine N.next ?_ | refine T.ret ?_ | refine T.skip ?_ | (apply T.cond_true; rfl) | (apply T.cond_false; rfl) | (apply TL.callE (f := 187) [strV rest, .int .u8 46] Tryz.call187; (iterate 4 rfl); (exact fun _ hs => c_last _ 46 _ _ hs.sat hr _ hv)) | (apply TL.val; rfl; rfl; (first | exact vpure | exact vread)) | (apply TL.x; rfl; rfl; (first | exact xgrow | exact xput); intro _ _)))
    apply N.ret2; rfl; (exact rvx); (exact rvx)
    intro w1 hst
    refine ⟨(false, rest), ⟨hr, by omega, (fun h => by cases h), fun _ => by omega⟩, ?_, hst⟩
    rw [hlab]; rfl
  · have hrev : (splitDots rest).reverse = rest.drop (i + 1) :: (splitDots (rest.take i)).reverse := by rw [hsp, List.reverse_append]; rfl
    rw [hrev, List.drop_eq_getElem_cons hkl] at hk
    obtain ⟨hlab, hk'⟩ := List.cons.inj hk
    repeat (any_goals (first | refine T.seq ?_ | refine T.region ?_ | refine TL.nil ?_ | refine N.next ?_ | refine T.ret ?_ | refine T.skip ?_ | (apply T.cond_false; rfl) | (apply TL.callE (f := 187) [strV rest, .int .u8 46] Tryz.call187; (iterate 4 rfl); (exact fun _ hs => c_last _ 46 _ _ hs.sat hr _ hv)) | (apply TL.val; rfl; rfl; (first | exact vpure | exact vread)) | (apply TL.x; rfl; rfl; (first | exact xgrow | exact xput); intro _ _)))
    apply N.ret2; rfl; (exact rvx); (exact rvx)
    intro w1 hst
    refine ⟨(true, rest.take i), ⟨by show (rest.take i).length ≤ _; simp; omega, by omega, fun _ => hk', fun h => by cases h⟩, ?_, hst⟩
    rw [hlab, show ((i : Int) + 1).toNat = i + 1 by omega]
end
theorem c_puller (l : Bytes) (H : Hp) (w : World) (hs : Sat H w) : Calls Tryz.prog 159 #[strV l] w (RetO w H (fun _ : Nat × Nat => True) (fun g => pullV g.1 g.2) (fun _ => H) (fun g => [boolB g.1 (!decide (l = [46])), strB g.2 l])) := by
  refine T.enter (vs := [strV l]) (H := H) Tryz.func159 rfl rfl rfl hs ?_
  repeat (any_goals (first | refine T.seq ?_ | refine T.region ?_ | refine TL.nil ?_ | refine N.next ?_ | refine T.ret ?_ | (apply TL.val; rfl; rfl; ((apply V.makeFunc (vs := []) (us := [_, _]) <;> rfl))) | (apply TL.val; rfl; rfl; (first | exact vpure | exact vread)) | (apply TL.x; rfl; rfl; (first | exact xgrow | exact xput); intro _ _)))
  apply N.ret1; rfl; (exact rvx)
  intro w1 hst
  exact ⟨(_, _), trivial, rfl, hst⟩
def cmpLL (rd : LoopState → Option Code → Loop) (b b8 bm br b5 b4 : Nat) : Bool × Bytes × Option Int → List Loc
  | (more, rest, none) => [.any (b + 1) (.loop (rd .ready none)), .any b (.deferred (some [])), .blk b8 199 [pullV bm br], boolB bm more, strB br rest, .blk b5 27 [intV 0], .blk b4 3 [intV 0]]
  | (more, rest, some r) => [.any (b + 1) (.loop (rd .done (some .ret))), .any b (.deferred (some [])), .blk b8 199 [pullV bm br], boolB bm more, strB br rest, .blk b5 27 [intV 0], .blk b4 3 [intV r]]
set_option maxHeartbeats 4000000 in
theorem c_CompareN (a c : Bytes) (ha : nameOK a = true) (hc : nameOK c = true) {H : Hp} {w : World} (hs : Sat H w) : Calls Tryz.prog 134 #[strV a, strV c] w (Ret w (.tuple #[intV (ordN a c), intV 0])) := by
  have hal : a.length ≤ 60 := name_len60 ha
  have hcl : c.length ≤ 60 := name_len60 hc
  have hal' : LenOk a := by show _ ≤ 9223372036854775807; omega
  have hcl' : LenOk c := by show _ ≤ 9223372036854775807; omega
  refine T.enterM (vs := [strV a, strV c]) (H := H) Tryz.func134 rfl rfl rfl hs ?_
  repeat (any_goals (first | refine T.seq ?_ | refine T.region ?_ | refine TL.nil ?_ | refine N.next ?_ | refine N.ret_then ?_ | refine T.ret ?_ | refine T.skip ?_ | refine T.block ?_ | (apply T.cond_false; rfl) | (apply T.test; rfl; (exact isx); intro _; rotate_left; intro _; rotate_right) | (apply TL.callE (f := 152) [strV a] Tryz.call152; (iterate 4 rfl); (exact fun _ hs => ha ▸ c_textValid a _ _ hs.sat hal')) | (apply TL.callE (f := 152) [strV c] Tryz.call152; (iterate 4 rfl); (exact fun _ hs => hc ▸ c_textValid c _ _ hs.sat hcl')) | (apply TL.x; rfl; rfl; (apply X.callO0 (f := 159) Tryz.call159; rfl; rfl; (exact fun _ hs => c_puller _ _ _ hs.sat)); intro _ _) | (apply TL.val; rfl; rfl; ((apply V.makeFunc (vs := [_]) (us := []) <;> rfl))) | (apply TL.val; rfl; rfl; (first | exact vpure | exact vread)) | (apply TL.x; rfl; rfl; (first | exact xgrow | exact xput); intro _ _)))
  all_goals (try contradiction)
  · rename_i hac _ _ _ _
    subst hac
    exact N.bare (N.ret_two rfl (by (exact rvx)) (by (exact rvx)) (by rw [show ordN a a = 0 from lexL_self _]))
  · rename_i b4 _ b5 _ hac p hp b8 _ _ _
    obtain ⟨bm, br⟩ := p
    obtain ⟨A, hA⟩ : ∃ A, labs a = A := ⟨_, rfl⟩
    obtain ⟨C, hC⟩ : ∃ C, labs c = C := ⟨_, rfl⟩
    have hne : A ≠ C := fun e => hac (labs_inj ha hc (by rw [hA, hC, e]))
    have hord : ordN a c = lexL A C := by unfold ordN; rw [hA, hC]
    rw [hord]
    refine T.rangeFunc (G := Bool × Bytes × Option Int) (fun g => match g.2.2 with | none => .normal | some _ => .ret) (fun _ => H) (fun g => [.blk b8 199 [pullV bm br], boolB bm g.1, strB br g.2.1, .blk b5 27 [intV 0], .blk b4 3 [intV (g.2.2.getD 0)]]) (fun g => g.2.2.getD (-1) = lexL A C) rfl Tryz.call160 (fun g _ => by obtain ⟨_, _, _ | _⟩ := g <;> trivial) ?_ ?_
    · intro fn ac b hf w1 hs1
      refine (c_backwards a hal' (G := Bool × Bytes × Option Int) (fun k g => g.2.2 = none ∧ PullSt c k g.2.1 g.1 ∧ A.take k = C.take k) (fun g => ∃ r, g.2.2 = some r ∧ r = lexL A C) (fun _ => H) (cmpLL (recd fn ac.tmps _ _ _ b) b b8 bm br b5 b4) ?_ (_, _, none) ⟨rfl, pull0 hcl', rfl⟩ hs1).mono ?_
      · rintro k ⟨more, rest, _⟩ ⟨rfl, hp1, htk⟩ hk w2 hs2
        simp only at hp1
        have hkA : k < A.length := by rw [← hA]; exact hk
        have hkC : k ≤ C.length := by rw [← hC]; exact hp1.le
        have hx : (labs a)[k] = A[k] := by subst hA; rfl
        rw [hx]
        refine yieldAt_of (i := 0) hs2 rfl rfl _ (Fr.round1 hf rfl) (env₁ := [(4, .pointer (some ⟨b4, 0, none⟩)), (5, .pointer (some ⟨b5, 0, none⟩)), (8, .pointer (some ⟨b8, 0, none⟩)), (10, strV A[k])]) ?_ ?_
        · repeat (any_goals (first | refine T.region ?_ | refine TL.nil ?_ | (apply TL.val; rfl; rfl; (first | exact vpure | exact vread))))
          exact N.both (by (repeat (first | exact True.intro | refine ⟨rfl, ?_⟩ | refine Sub.int rfl (by omega) ?_)))
        · simp only [cmpLL, List.set_cons_zero]
          cases more with
          | false =>
            have hkc := hp1.off rfl
            rw [hC] at hkc
            have hl : lexL A C = 1 := by rw [lexL_end (by omega) hkC htk (by omega), if_neg (by omega), if_pos (by omega)]
            repeat (any_goals (first | refine T.seq ?_ | refine T.region ?_ | refine TL.nil ?_ | refine N.next ?_ | refine N.ret_then ?_ | refine N.ret_block ?_ | refine T.ret ?_ | refine T.block ?_ | (apply T.cond_true; rfl) | (apply TL.x; rfl; rfl; (apply X.callS; rfl; rfl; rfl; exact Tryz.call186; exact fun _ hs => c_pullNo hs); intro _ _) | (apply TL.x; rfl; rfl; (apply X.store 6; (iterate 9 rfl)); intro _ _) | (apply TL.x; rfl; rfl; (apply X.store 5; (iterate 9 rfl)); intro _ _) | (apply TL.val; rfl; rfl; (first | exact vpure | exact vread))))
            all_goals (try contradiction)
            refine N.round_out (i := 0) (e := .ret) trivial rfl fun w hs => ⟨false, (false, rest, some 1), rfl, ?_, hs⟩
            rw [if_neg (by simp)]
            exact ⟨1, rfl, hl.symm⟩
          | true =>
            have hkc : k < C.length := by rw [← hC]; exact hp1.lt
            have hy : (labs c)[k]'hp1.lt = C[k] := by subst hC; rfl
            by_cases hz : cmpS A[k] C[k] = 0
            · repeat (any_goals (first | refine T.seq ?_ | refine T.region ?_ | refine TL.nil ?_ | refine N.next ?_ | refine N.inBlock ?_ | refine T.skip ?_ | refine T.block ?_ | (apply T.cond_false; rfl) | (apply TL.x; rfl; rfl; (apply X.callS; rfl; rfl; rfl; exact Tryz.call186; exact fun _ hs => hy ▸ c_pullYes hp1 hs); intro _ _) | (apply TL.callE (f := 161) [strV A[k], strV C[k]] Tryz.call161; (iterate 4 rfl); (exact fun _ hs => hz ▸ c_strCompare A[k] C[k] hs.sat)) | (apply TL.val; rfl; rfl; (first | exact vpure | exact vread))))
              all_goals (try contradiction)
              refine N.round_out (i := 0) (e := .normal) trivial rfl fun w hs => ⟨true, (_, _, none), rfl, ?_, hs⟩
              rw [if_pos rfl]
              exact ⟨rfl, by assumption, take_next hkA hkc htk (cmpS_zero.1 hz)⟩
            · repeat (any_goals (first | refine T.seq ?_ | refine T.region ?_ | refine TL.nil ?_ | refine N.next ?_ | refine N.inBlock ?_ | refine N.ret_block ?_ | refine T.ret ?_ | refine T.skip ?_ | refine T.block ?_ | (apply T.cond_false; rfl) | (apply T.test; rfl; (exact isx); intro _; rotate_left; intro _; rotate_right) | (apply TL.x; rfl; rfl; (apply X.callS; rfl; rfl; rfl; exact Tryz.call186; exact fun _ hs => hy ▸ c_pullYes hp1 hs); intro _ _) | (apply TL.callE (f := 161) [strV A[k], strV C[k]] Tryz.call161; (iterate 4 rfl); (exact fun _ hs => c_strCompare A[k] C[k] hs.sat)) | (apply TL.x; rfl; rfl; (apply X.store 6; (iterate 9 rfl)); intro _ _) | (apply TL.x; rfl; rfl; (apply X.store 5; (iterate 9 rfl)); intro _ _) | (apply TL.val; rfl; rfl; (first | exact vpure | exact vread))))
              all_goals (try contradiction)
              refine N.round_out (i := 0) (e := .ret) trivial rfl fun w hs => ⟨false, (_, _, some (cmpS A[k] C[k])), rfl, ?_, hs⟩
              rw [if_neg (by simp)]
              exact ⟨_, rfl, (lexL_at hkA hkc htk (fun e => hz (cmpS_zero.2 e))).symm⟩
      · rintro e w2 ⟨v, ⟨more, rest, res⟩, rfl, (⟨h1, hp1, htk⟩ | ⟨r, h1, hr⟩), hs2⟩
        · simp only at h1
          subst h1
          have hkC : A.length ≤ C.length := by rw [← hC, ← hA]; exact hp1.le
          refine ⟨(more, rest, none), v, .ready, rfl, ?_, by simp, hs2⟩
          rw [hA] at htk
          rw [lexL_end (Nat.le_refl _) hkC htk (by omega), if_pos]
          · rfl
          · rcases Nat.lt_or_ge A.length C.length with h | h
            · exact h
            · rw [List.take_length, List.take_of_length_le h] at htk
              exact absurd htk hne
        · simp only at h1
          subst h1
          exact ⟨(more, rest, some r), v, .done, rfl, hr, by simp, hs2⟩
    · rintro b ⟨more, rest, res⟩ hg
      cases res with
      | none =>
        show N _ _ _ _ .normal _ _ _
        repeat (any_goals (first | refine T.seq ?_ | refine T.region ?_ | refine TL.nil ?_ | refine N.next ?_ | refine N.inBlock ?_ | refine T.ret ?_ | (apply TL.x; rfl; rfl; (first | exact xgrow | exact xput); intro _ _)))
        exact N.marked (i := 0) rfl (N.ret_two rfl (by (exact rvx)) (by (exact rvx)) (by rw [← hg]; rfl))
      | some r =>
        show N _ _ _ _ .ret _ _ _
        repeat (any_goals (first | refine N.ret_then ?_ | refine N.ret_block ?_))
        exact N.marked (i := 0) rfl (N.ret_two rfl (by (exact rvx)) (by (exact rvx)) (by rw [← hg]; rfl))
end Go.Proofs.YthabgdbhgcgemaaGreatDoor
