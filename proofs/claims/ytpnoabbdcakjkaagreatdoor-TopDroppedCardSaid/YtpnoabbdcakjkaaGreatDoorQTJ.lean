/- Walks: what matches. -/
import Derived.Test.YtpnoabbdcakjkaaGreatDoorQTH
namespace Go.Proofs.YtpnoabbdcakjkaaGreatDoor
set_option linter.unusedVariables false
set_option linter.unusedSimpArgs false
open Go Go.RowKit
open Enc (enc)
set_option maxRecDepth 20000

theorem eq_Key (a b : KeyC) (w : World) : (Op.equalIn 10000 115 (.agg (enc a).toArray) (.agg (enc b).toArray)).run Tryz.prog w = .ok (decide (a = b)) w := by
  have hS : Tryz.prog.underlying 115 = some (.struct (Tryz.prog.fieldsOf 115)) := by kernel_rfl
  rw [show (10000 : Nat) = 9999 + 1 from rfl, run_equalIn_agg w 9999 115 _ _ hS Tryz.stoodInHeld115]
  simp only [Program.fieldsOf, Tryz.underlying115]
  have e : decide (a = b) = (decide (a.n = b.n) && (decide (a.alg = b.alg) && true)) := by
    rw [Bool.eq_iff_iff]; cases a; cases b; simp
  rw [e]
  refine eqF_cons (by decide) rfl rfl rfl rfl (eqI Tryz.underlying3) ?_
  refine eqF_cons (by decide) rfl rfl rfl rfl (eqI Tryz.underlying3) ?_
  exact eqF_nil
theorem c_Matches1 (a k : KeyC) (b : Nat) (H : Hp) (w : World) (hs : Sat H w) (hb : H.cells b 0 (enc k)) : Calls Tryz.prog 204 #[.agg (enc a).toArray, .pointer (some ⟨b, 0, none⟩)] w (Ret w (.bool (decide (a = k)))) := by
  refine T.enter (vs := [.agg (enc a).toArray, .pointer (some ⟨b, 0, none⟩)]) (H := H) Tryz.func204 rfl rfl rfl hs ?_
  repeat (any_goals (first | refine T.seq ?_ | refine T.region ?_ | refine TL.nil ?_ | refine N.next ?_ | refine N.inBlock ?_ | refine N.exit_same ?_ | refine N.exit_then ?_ | refine N.ret_then ?_ | refine N.ret_block ?_ | (apply N.exit_other; rfl) | refine T.ret ?_ | refine T.skip ?_ | refine T.exit ?_ | refine T.block ?_ | (apply T.cond_true; rfl) | (apply T.cond_false; rfl) | (apply T.test; rfl; (exact isx); intro _; rotate_left; intro _; rotate_right) | (apply TL.skip; rfl; rfl; rfl) | (apply TL.skip_none; rfl; rfl) | (apply TL.val; rfl; rfl; (apply V.load_H_row; rfl; rfl; rfl; exact hb; rfl)) | (apply TL.val; rfl; rfl; (apply V.aeql; rfl; rfl; exact Tryz.eqGuardType115; exact fun w => eq_Key a k w)) | (apply TL.val; rfl; rfl; (first | exact vpure | exact vread)) | (apply TL.x; rfl; rfl; (first | exact xgrow | exact xput); intro _ _) | (apply TL.guard; rfl; rfl; rfl; (exact isx); intro _; rotate_left; intro _; rotate_right)))
  all_goals (try (first | (apply N.ret_bool; rfl; (exact rvx)) | (apply N.ret_int; rfl; (exact rvx)) | (apply N.ret_val; rfl; (exact rvx))))
  rfl
theorem says_Matches1 {H : Hp} {k : KeyC} {b : Nat} (hb : H.cells b 0 (enc k)) (l : List KeyC) : SaysOf H 204 #[.pointer (some ⟨b, 0, none⟩)] (fun a => decide (a = k)) l := fun x _ w hs => by
  simpa using c_Matches1 x k b H w hs hb
theorem found_contains (l : List KeyC) (k : KeyC) : (l.find? (fun a => decide (a = k))).isSome = l.contains k := by
  rw [find_any]
  induction l with
  | nil => rfl
  | cons a l ih =>
    rw [List.any_cons, ih, List.contains_cons]
    congr 1
    by_cases h : a = k
    · subst h; simp
    · simp [h, Ne.symm h]
section
variable {P : Program} {n : FK} {w0 : World} {H0 H : Hp} {Q : Exit → Act → World → Prop} {env : List (Nat × Value)} {L : List Loc} {ops rest : List Oper}
theorem TL.nilRow (e : TypeId) (size : Nat) (h : TL P n w0 H0 ops Q rest env H (.row (.slice none 0 0) e size 0 [] :: L)) : TL P n w0 H0 ops Q rest env H L := ⟨fun a w hf hs => h.out a w hf (hs.nilRow e size)⟩
end
theorem filter_up {α : Type} {p : α → Bool} {l : List α} {k : Nat} (hk : k < l.length) : (l.take (k + 1)).filter p = (l.take k).filter p ++ (if p l[k] then [l[k]] else []) := by
  rw [List.take_add_one, List.getElem?_eq_getElem hk, List.filter_append]
  simp only [Option.toList]
  cases h : p l[k] <;> simp [h]
set_option maxHeartbeats 4000000 in
theorem c_trustMatches (a : RSet) (s : Signed) (at_ drift : Int) (H : Hp) (w : World) (hs : Sat H w) (hR : Rules H) (ha : Enc.good H a) (hg : Enc.good H s) : Calls Tryz.prog 180 #[.agg (enc a).toArray, .agg (enc s).toArray, intV at_, intV drift] w (Ret w (.bool (matches_ a.c s.c at_ drift))) := by
  refine T.enter (vs := [.agg (enc a).toArray, .agg (enc s).toArray, intV at_, intV drift]) (H := H) Tryz.func180 rfl rfl rfl hs ?_
  have e1 : s.c.set = s.set.c := rfl
  cases h1 : setOK a.c with
  | false =>
    repeat (any_goals (first | refine T.seq ?_ | refine T.region ?_ | refine TL.nil ?_ | refine N.next ?_ | refine N.inBlock ?_ | refine N.exit_same ?_ | refine N.exit_then ?_ | refine N.ret_then ?_ | refine N.ret_block ?_ | (apply N.exit_other; rfl) | refine T.ret ?_ | refine T.skip ?_ | refine T.exit ?_ | refine T.block ?_ | (apply T.cond_true; rfl) | (apply T.cond_false; rfl) | (apply T.test; rfl; (exact isx); intro _; rotate_left; intro _; rotate_right) | (apply TL.skip; rfl; rfl; rfl) | (apply TL.skip_none; rfl; rfl) | (apply TL.callE (f := 46) [.agg (enc a).toArray] Tryz.call46; (iterate 4 rfl); (exact fun _ hs => h1 ▸ c_recordValid a _ _ hs.sat hR ha)) | (apply TL.val; rfl; rfl; (first | exact vpure | exact vread)) | (apply TL.x; rfl; rfl; (first | exact xgrow | exact xput); intro _ _) | (apply TL.guard; rfl; rfl; rfl; (exact isx); intro _; rotate_left; intro _; rotate_right)))
    all_goals (try (first | (apply N.ret_bool; rfl; (exact rvx)) | (apply N.ret_int; rfl; (exact rvx)) | (apply N.ret_val; rfl; (exact rvx))))
    all_goals simp [matches_, h1]
  | true =>
    by_cases h2 : a.typ = 6
    rotate_left
    · repeat (any_goals (first | refine T.seq ?_ | refine T.region ?_ | refine TL.nil ?_ | refine N.next ?_ | refine N.inBlock ?_ | refine N.exit_same ?_ | refine N.exit_then ?_ | refine N.ret_then ?_ | refine N.ret_block ?_ | (apply N.exit_other; rfl) | refine T.ret ?_ | refine T.skip ?_ | refine T.exit ?_ | refine T.block ?_ | (apply T.cond_true; rfl) | (apply T.cond_false; rfl) | (apply T.test; rfl; (exact isx); intro _; rotate_left; intro _; rotate_right) | (apply TL.skip; rfl; rfl; rfl) | (apply TL.skip_none; rfl; rfl) | (apply TL.callE (f := 46) [.agg (enc a).toArray] Tryz.call46; (iterate 4 rfl); (exact fun _ hs => h1 ▸ c_recordValid a _ _ hs.sat hR ha)) | (apply TL.val; rfl; rfl; (first | exact vpure | exact vread)) | (apply TL.x; rfl; rfl; (first | exact xgrow | exact xput); intro _ _) | (apply TL.guard; rfl; rfl; rfl; (exact isx); intro _; rotate_left; intro _; rotate_right)))
      all_goals (try contradiction)
      all_goals (try (first | (apply N.ret_bool; rfl; (exact rvx)) | (apply N.ret_int; rfl; (exact rvx)) | (apply N.ret_val; rfl; (exact rvx))))
      all_goals simp [matches_, show ¬ a.c.typ = 6 from h2]
    cases h3 : setOK s.set.c with
    | false =>
      repeat (any_goals (first | refine T.seq ?_ | refine T.region ?_ | refine TL.nil ?_ | refine N.next ?_ | refine N.inBlock ?_ | refine N.exit_same ?_ | refine N.exit_then ?_ | refine N.ret_then ?_ | refine N.ret_block ?_ | (apply N.exit_other; rfl) | refine T.ret ?_ | refine T.skip ?_ | refine T.exit ?_ | refine T.block ?_ | (apply T.cond_true; rfl) | (apply T.cond_false; rfl) | (apply T.test; rfl; (exact isx); intro _; rotate_left; intro _; rotate_right) | (apply TL.skip; rfl; rfl; rfl) | (apply TL.skip_none; rfl; rfl) | (apply TL.callE (f := 46) [.agg (enc a).toArray] Tryz.call46; (iterate 4 rfl); (exact fun _ hs => h1 ▸ c_recordValid a _ _ hs.sat hR ha)) | (apply TL.callE (f := 46) [.agg (enc s.set).toArray] Tryz.call46; (iterate 4 rfl); (exact fun _ hs => h3 ▸ c_recordValid s.set _ _ hs.sat hR hg.1)) | (apply TL.val; rfl; rfl; (first | exact vpure | exact vread)) | (apply TL.x; rfl; rfl; (first | exact xgrow | exact xput); intro _ _) | (apply TL.guard; rfl; rfl; rfl; (exact isx); intro _; rotate_left; intro _; rotate_right)))
      all_goals (try contradiction)
      all_goals (try (first | (apply N.ret_bool; rfl; (exact rvx)) | (apply N.ret_int; rfl; (exact rvx)) | (apply N.ret_val; rfl; (exact rvx))))
      all_goals simp [matches_, e1, h3]
    | true =>
      have hma : a.data.len ≤ 1000 := by have := (setOK_short h1).data; have h5 := ha.2.2.2.len; have h6 : a.c.data.length = a.data.els.length := rfl; omega
      have hms : s.set.data.len ≤ 8 := by have := (setOK_short h3).data; have h5 := hg.1.2.2.2.len; have h6 : s.set.c.data.length = s.set.data.els.length := rfl; omega
      have e3 : keysOf s.set.c = s.set.data.els.map fun d => ⟨d.n, d.m⟩ := rfl
      repeat (any_goals (first | refine T.seq ?_ | refine T.region ?_ | refine TL.nil ?_ | refine N.next ?_ | refine N.inBlock ?_ | refine N.exit_same ?_ | refine N.exit_then ?_ | refine N.ret_then ?_ | refine N.ret_block ?_ | (apply N.exit_other; rfl) | refine T.ret ?_ | refine T.skip ?_ | refine T.exit ?_ | refine T.block ?_ | (apply T.cond_true; rfl) | (apply T.cond_false; rfl) | (apply T.test; rfl; (exact isx); intro _; rotate_left; intro _; rotate_right) | (apply TL.skip; rfl; rfl; rfl) | (apply TL.skip_none; rfl; rfl) | (apply TL.callE (f := 46) [.agg (enc a).toArray] Tryz.call46; (iterate 4 rfl); (exact fun _ hs => h1 ▸ c_recordValid a _ _ hs.sat hR ha)) | (apply TL.callE (f := 46) [.agg (enc s.set).toArray] Tryz.call46; (iterate 4 rfl); (exact fun _ hs => h3 ▸ c_recordValid s.set _ _ hs.sat hR hg.1)) | (apply TL.x; rfl; rfl; (apply X.callFE (f := 181) [.agg (enc a).toArray] Tryz.call181; rfl; rfl; rfl; exact (fun _ hs => c_keysOf a _ _ hs.sat ha hma)); intro p1 hp1; have hgg := Enc.mono hp1.2 hg) | (apply TL.x; rfl; rfl; (apply X.callFE (f := 181) [.agg (enc s.set).toArray] Tryz.call181; rfl; rfl; rfl; exact (fun _ hs => c_keysOf s.set _ _ hs.sat hgg.1 (by omega))); intro p2 hp2; apply TL.nilRow 115 2) | (apply TL.val; rfl; rfl; (first | exact vpure | exact vread)) | (apply TL.x; rfl; rfl; (first | exact xgrow | exact xput); intro _ _) | (apply TL.guard; rfl; rfl; rfl; (exact isx); intro _; rotate_left; intro _; rotate_right)))
      all_goals (try contradiction)
      all_goals (try ((apply N.ret_bool; rfl; (exact rvx)); simp [matches_, Signed.c, RSet.c, *]; done))
      rename_i b4 _ b5 _ _ h7 hnm
      have hfl : ∀ k, ((p2.2.els.take k).filter fun x => p1.2.els.contains x).length ≤ 8 := fun k => by
        refine Nat.le_trans (List.length_filter_le _ _) (Nat.le_trans (List.length_take_le' _ _) ?_)
        rw [hp2.1.1, e3, List.length_map, hgg.1.2.2.2.len]
        exact hms
      have g2 := hp2.1.2
      have hl2 := g2.len
      have hlim2 := g2.lim
      refine T.loop (G := Nat × Hp × Value) (fun g => [(2, intV at_), (3, intV drift), (4, .pointer (some ⟨b4, 0, none⟩)), (5, .pointer (some ⟨b5, 0, none⟩)), (9, p1.2.v), (45, p2.2.v), (46, intV p2.2.len), (47, intV g.1), (10, g.2.2)]) (fun g => g.2.1) (fun g => [.row g.2.2 115 2 ((p2.2.els.take g.1).filter fun x => p1.2.els.contains x).length (encs ((p2.2.els.take g.1).filter fun x => p1.2.els.contains x)), .blk b5 69 (enc s), .blk b4 59 (enc a)])
        (fun g => g.1 ≤ p2.2.len ∧ p2.1.le g.2.1) (fun g => p2.2.len - g.1) (0, p2.1, .slice none 0 0) ⟨Nat.zero_le _, .refl _⟩ (by (repeat (first | exact True.intro | refine ⟨rfl, ?_⟩ | refine Sub.int rfl (by omega) ?_))) rfl (by exact List.Sublist.refl _) ?_
      rintro ⟨k, H3, v⟩ ⟨hk, hle⟩
      simp only at hk hle ⊢
      have g1 := hp1.1.2.mono (hp2.2.trans hle)
      have g2' := g2.mono hle
      obtain ⟨F, hF⟩ : ∃ F, F = (p2.2.els.take k).filter fun x => p1.2.els.contains x := ⟨_, rfl⟩
      have hF8 := hfl k
      rw [← hF] at hF8 ⊢
      by_cases hlt : k < p2.2.len
      · have hkk : k < p2.2.els.length := by omega
        have hup := filter_up (p := fun x => p1.2.els.contains x) hkk
        rw [← hF] at hup
        repeat (any_goals (first | refine T.seq ?_ | refine T.region ?_ | refine TL.nil ?_ | refine N.next ?_ | refine N.inBlock ?_ | refine N.exit_same ?_ | refine N.exit_then ?_ | refine N.ret_then ?_ | refine N.ret_block ?_ | (apply N.exit_other; rfl) | refine T.ret ?_ | refine T.skip ?_ | refine T.exit ?_ | refine T.block ?_ | (apply T.cond_true; rfl) | (apply T.cond_false; rfl) | (apply T.test; rfl; (exact isx); intro _; rotate_left; intro _; rotate_right) | (apply TL.skip; rfl; rfl; rfl) | (apply TL.skip_none; rfl; rfl) | (apply TL.x; rfl; rfl; (apply X.storeTo 0 (enc (p2.2.els[k]'hkk)); (iterate 10 rfl)); intro _ _; apply TL.frz 0; rfl; intro H4 z4 hl4) | (apply TL.val; rfl; rfl; ((apply V.makeFunc (vs := []) (us := [_]) <;> rfl))) | (apply TL.val; rfl; rfl; (apply V.load_H_row; rfl; rfl; rfl; exact z4; rfl)) | (apply TL.callE (f := 139) [p1.2.v, .func (.func 204) #[] #[_]] Tryz.call139; (iterate 4 rfl); (exact fun _ hs => c_firstKey p1.2 _ Tryz.call204 _ _ hs.sat (g1.mono hl4) (says_Matches1 z4 _))) | (apply TL.x; rfl; rfl; (apply X.storeTo 0 (enc ((p1.2.els.find? (fun a => decide (a = p2.2.els[k]'hkk))).getD keyNil)); (iterate 10 rfl)); intro _ _) | (apply TL.x; rfl; rfl; (apply X.append 2 (j := 1) (news := enc (p2.2.els[k]'hkk)); (iterate 9 rfl); exact List.Mem.head _; rfl; rfl; (show (F.length + 1) * 16 ≤ _; omega); omega); intro v2 _) | (apply TL.val; rfl; rfl; (first | exact vpure | exact vread)) | (apply TL.x; rfl; rfl; (first | exact xgrow | exact xput); intro _ _) | (apply TL.guard; rfl; rfl; rfl; (exact isx); intro _; rotate_left; intro _; rotate_right)))
        all_goals (try (exfalso; omega))
        · rename_i hf _ _ _
          rw [found_contains] at hf
          rw [if_pos hf] at hup
          refine N.round (k + 1, H4, v2) ⟨by show k + 1 ≤ _; omega, hle.trans hl4⟩ (by show p2.2.len - (k + 1) < p2.2.len - k; omega) (by (repeat (first | exact True.intro | refine ⟨rfl, ?_⟩ | refine Sub.int rfl (by omega) ?_))) rfl ?_
          show List.Sublist [Loc.row v2 115 2 ((p2.2.els.take (k + 1)).filter fun x => p1.2.els.contains x).length (encs ((p2.2.els.take (k + 1)).filter fun x => p1.2.els.contains x)), Loc.blk b5 69 (enc s), Loc.blk b4 59 (enc a)] _
          rw [hup, encs_snoc, List.length_append]
          exact List.Sublist.cons _ (List.Sublist.cons _ (List.Sublist.refl _))
        · rename_i hf
          rw [found_contains] at hf
          rw [if_neg (by rw [hf]; simp), List.append_nil] at hup
          refine N.round (k + 1, H4, v) ⟨by show k + 1 ≤ _; omega, hle.trans hl4⟩ (by show p2.2.len - (k + 1) < p2.2.len - k; omega) (by (repeat (first | exact True.intro | refine ⟨rfl, ?_⟩ | refine Sub.int rfl (by omega) ?_))) rfl ?_
          show List.Sublist [Loc.row v 115 2 ((p2.2.els.take (k + 1)).filter fun x => p1.2.els.contains x).length (encs ((p2.2.els.take (k + 1)).filter fun x => p1.2.els.contains x)), Loc.blk b5 69 (enc s), Loc.blk b4 59 (enc a)] _
          rw [hup]
          exact List.Sublist.cons _ (List.Sublist.refl _)
      · have hke : k = p2.2.len := by omega
        subst hke
        have hall : F = both a.c s.c.set := by
          rw [hF, List.take_of_length_le (by omega), hp2.1.1, hp1.1.1]
          rfl
        have hFg : ∀ x ∈ F, Enc.good H3 x := fun x hx => by
          rw [hF] at hx
          exact g2'.els x (List.mem_of_mem_take (List.mem_filter.1 hx).1)
        apply T.frzRow 0 rfl rfl rfl hFg
        rintro H4 ⟨A, n4, c4, els4⟩ q1 q2 q3 q4
        have q1' : v = .slice A n4 c4 := q1.symm
        subst q1'
        simp only at q2
        subst q2
        have hg4 := Enc.mono q4 (Enc.mono hle (Enc.mono hp2.2 hgg))
        have hR4 := Rules.mono q4 (Rules.mono hle (Rules.mono hp2.2 (Rules.mono hp1.2 hR)))
        repeat (any_goals (first | refine T.seq ?_ | refine T.region ?_ | refine TL.nil ?_ | refine N.next ?_ | refine N.inBlock ?_ | refine N.exit_same ?_ | refine N.exit_then ?_ | refine N.ret_then ?_ | refine N.ret_block ?_ | (apply N.exit_other; rfl) | refine T.ret ?_ | refine T.skip ?_ | refine T.exit ?_ | refine T.block ?_ | (apply T.cond_true; rfl) | (apply T.cond_false; rfl) | (apply T.test; rfl; (exact isx); intro _; rotate_left; intro _; rotate_right) | (apply TL.skip; rfl; rfl; rfl) | (apply TL.skip_none; rfl; rfl) | (apply TL.callE (f := 96) [.agg (enc s).toArray, strV a.name, .slice A n4 c4, intV at_, intV drift] Tryz.call96; (iterate 4 rfl); (exact fun _ hs => c_trustSigned s a.name ⟨A, n4, c4, _⟩ at_ drift _ _ hs.sat hR4 hg4 q3)) | (apply TL.val; rfl; rfl; (first | exact vpure | exact vread)) | (apply TL.x; rfl; rfl; (first | exact xgrow | exact xput); intro _ _) | (apply TL.guard; rfl; rfl; rfl; (exact isx); intro _; rotate_left; intro _; rotate_right)))
        all_goals (try (exfalso; omega))
        all_goals (try (first | (apply N.ret_bool; rfl; (exact rvx)) | (apply N.ret_int; rfl; (exact rvx)) | (apply N.ret_val; rfl; (exact rvx))))
        rw [hall]
        simp [matches_, h1, h3, e1, show a.c.typ = 6 from h2, show s.set.c.typ = 7 from h7, show s.set.c.name = a.c.name from hnm]
        rfl
end Go.Proofs.YtpnoabbdcakjkaaGreatDoor
namespace Go.Proofs.YtpnoabbdcakjkaaGreatDoor
set_option linter.unusedVariables false
set_option linter.unusedSimpArgs false
open Go Go.RowKit
open Enc (enc)
set_option maxRecDepth 20000

structure Finder where
  known : Slc Signed
  anchor : RSet
  at_ : Int
  drift : Int
instance : Enc Finder where
  size := 7
  enc f := [.slice f.known.A f.known.len f.known.cap, strV f.anchor.name, intV f.anchor.typ, intV f.anchor.life, .slice f.anchor.data.A f.anchor.data.len f.anchor.data.cap, intV f.at_, intV f.drift]
  good H f := f.known.Good H ∧ Enc.good H f.anchor ∧ I64 f.at_ ∧ I64 f.drift
  len _ := rfl
  mono hle h := ⟨h.1.mono hle, Enc.mono hle h.2.1, h.2.2⟩
  one _ := rfl
  pos := by decide
def findS (l : List Signed) (n : Bytes) (t : Int) : Option Signed := l.find? fun s => isSet n t s.c
theorem findS_c (l : List Signed) (n : Bytes) (t : Int) : findC (l.map Signed.c) n t = (findS l n t).map Signed.c := by
  unfold findC findS
  rw [List.find?_map]
  rfl
theorem findS_good {H : Hp} {s : Slc Signed} (hg : s.Good H) (n : Bytes) (t : Int) : Enc.good H ((findS s.els n t).getD signedNil) := by
  cases h : findS s.els n t with
  | none => exact ⟨⟨by decide, by decide, by decide, Slc.nil_good⟩, Slc.nil_good⟩
  | some x => exact hg.els x (List.mem_of_find?_eq_some h)
theorem c_find1 (s : Signed) (n : Bytes) (t : Int) (b5 b4 : Nat) (H : Hp) (w : World) (hs : Sat H w) (h5 : H.cells b5 0 [intV t]) (h4 : H.cells b4 0 [strV n]) : Calls Tryz.prog 203 #[.agg (enc s).toArray, .pointer (some ⟨b5, 0, none⟩), .pointer (some ⟨b4, 0, none⟩)] w (Ret w (.bool (isSet n t s.c))) := by
  refine T.enter (vs := [.agg (enc s).toArray, .pointer (some ⟨b5, 0, none⟩), .pointer (some ⟨b4, 0, none⟩)]) (H := H) Tryz.func203 rfl rfl rfl hs ?_
  repeat (any_goals (first | refine T.seq ?_ | refine T.region ?_ | refine TL.nil ?_ | refine N.next ?_ | refine N.inBlock ?_ | refine N.exit_same ?_ | refine N.exit_then ?_ | refine N.ret_then ?_ | refine N.ret_block ?_ | (apply N.exit_other; rfl) | refine T.ret ?_ | refine T.skip ?_ | refine T.exit ?_ | refine T.block ?_ | (apply T.cond_true; rfl) | (apply T.cond_false; rfl) | (apply T.test; rfl; (exact isx); intro _; rotate_left; intro _; rotate_right) | (apply TL.skip; rfl; rfl; rfl) | (apply TL.skip_none; rfl; rfl) | (apply TL.val; rfl; rfl; (apply V.load_H; rfl; rfl; rfl; (first | exact h5 0 _ rfl | exact h4 0 _ rfl))) | (apply TL.val; rfl; rfl; (first | exact vpure | exact vread)) | (apply TL.x; rfl; rfl; (first | exact xgrow | exact xput); intro _ _) | (apply TL.guard; rfl; rfl; rfl; (exact isx); intro _; rotate_left; intro _; rotate_right)))
  all_goals (try (first | (apply N.ret_bool; rfl; (exact rvx)) | (apply N.ret_int; rfl; (exact rvx)) | (apply N.ret_val; rfl; (exact rvx))))
  all_goals (simp [isSet, Signed.c, RSet.c, *]; done)
theorem says_find1 {H : Hp} {n : Bytes} {t : Int} {b5 b4 : Nat} (h5 : H.cells b5 0 [intV t]) (h4 : H.cells b4 0 [strV n]) (l : List Signed) : SaysOf H 203 #[.pointer (some ⟨b5, 0, none⟩), .pointer (some ⟨b4, 0, none⟩)] (fun s => isSet n t s.c) l := fun x _ w hs => by
  simpa using c_find1 x n t b5 b4 H w hs h5 h4
theorem c_find (f : Finder) (n : Bytes) (t : Int) (H : Hp) (w : World) (hs : Sat H w) (hg : Enc.good H f) : Calls Tryz.prog 175 #[.agg (enc f).toArray, strV n, intV t] w (Ret w (.tuple #[.agg (enc ((findS f.known.els n t).getD signedNil)).toArray, .bool (findS f.known.els n t).isSome])) := by
  refine T.enter (vs := [.agg (enc f).toArray, strV n, intV t]) (H := H) Tryz.func175 rfl rfl rfl hs ?_
  repeat (any_goals (first | refine T.seq ?_ | refine T.region ?_ | refine TL.nil ?_ | refine N.next ?_ | refine N.inBlock ?_ | refine N.exit_same ?_ | refine N.exit_then ?_ | refine N.ret_then ?_ | refine N.ret_block ?_ | (apply N.exit_other; rfl) | refine T.ret ?_ | refine T.skip ?_ | refine T.exit ?_ | refine T.block ?_ | (apply T.cond_true; rfl) | (apply T.cond_false; rfl) | (apply T.test; rfl; (exact isx); intro _; rotate_left; intro _; rotate_right) | (apply TL.skip; rfl; rfl; rfl) | (apply TL.skip_none; rfl; rfl) | (apply TL.val; rfl; rfl; ((apply V.makeFunc (vs := []) (us := [_, _]) <;> rfl)); apply TL.frz 1; rfl; intro H1 z5 hl1; apply TL.frz 1; rfl; intro H2 z4 hl2; have z5' := z5.le hl2; have hg2 := Enc.mono (hl1.trans hl2) hg) | (apply TL.callE (f := 133) [f.known.v, .func (.func 203) #[] #[_, _]] Tryz.call133; (iterate 4 rfl); (exact fun _ hs => c_firstSigned f.known _ Tryz.call203 _ _ hs.sat hg2.1 (says_find1 z5' z4 _))) | (apply TL.x; rfl; rfl; (apply X.storeTo 0 (enc ((findS f.known.els n t).getD signedNil)); (iterate 10 rfl)); intro _ _) | (apply TL.val; rfl; rfl; (first | exact vpure | exact vread)) | (apply TL.x; rfl; rfl; (first | exact xgrow | exact xput); intro _ _) | (apply TL.guard; rfl; rfl; rfl; (exact isx); intro _; rotate_left; intro _; rotate_right)))
  apply N.ret_two; rfl; (exact rvx); (exact rvx)
  rfl
theorem c_Path1 (s : Signed) (H : Hp) (w : World) (hs : Sat H w) (hR : Rules H) (hg : Enc.good H s) : Calls Tryz.prog 134 #[.agg (enc s).toArray] w (Ret w (.bool (!setOK s.set.c))) := by
  refine T.enter (vs := [.agg (enc s).toArray]) (H := H) Tryz.func134 rfl rfl rfl hs ?_
  repeat (any_goals (first | refine T.seq ?_ | refine T.region ?_ | refine TL.nil ?_ | refine N.next ?_ | refine N.inBlock ?_ | refine N.exit_same ?_ | refine N.exit_then ?_ | refine N.ret_then ?_ | refine N.ret_block ?_ | (apply N.exit_other; rfl) | refine T.ret ?_ | refine T.skip ?_ | refine T.exit ?_ | refine T.block ?_ | (apply T.cond_true; rfl) | (apply T.cond_false; rfl) | (apply T.test; rfl; (exact isx); intro _; rotate_left; intro _; rotate_right) | (apply TL.skip; rfl; rfl; rfl) | (apply TL.skip_none; rfl; rfl) | (apply TL.callE (f := 46) [.agg (enc s.set).toArray] Tryz.call46; (iterate 4 rfl); (exact fun _ hs => c_recordValid s.set _ _ hs.sat hR hg.1)) | (apply TL.val; rfl; rfl; (first | exact vpure | exact vread)) | (apply TL.x; rfl; rfl; (first | exact xgrow | exact xput); intro _ _) | (apply TL.guard; rfl; rfl; rfl; (exact isx); intro _; rotate_left; intro _; rotate_right)))
  all_goals (try (first | (apply N.ret_bool; rfl; (exact rvx)) | (apply N.ret_int; rfl; (exact rvx)) | (apply N.ret_val; rfl; (exact rvx))))
  rfl
theorem says_Path1 {H : Hp} (hR : Rules H) {l : List Signed} (hl : ∀ s ∈ l, Enc.good H s) : SaysOf H 134 #[] (fun s => !setOK s.set.c) l := fun x hx w hs => by
  simpa using c_Path1 x H w hs hR (hl x hx)
end Go.Proofs.YtpnoabbdcakjkaaGreatDoor
