/- Walks: the lessons of prefetch.Learn. -/
import Derived.Test.YtogcofeencgipaaGreatDoorZQC
namespace Go.Proofs.YtogcofeencgipaaGreatDoor
set_option linter.unusedVariables false
set_option linter.unusedSimpArgs false
open Go Go.RowKit
open Enc (enc)
set_option maxRecDepth 20000
/-- A lesson: a function value, and what it makes of a cache. -/
structure LesV where
  F : FuncId
  cap : Array Value
  m : List EntryC → List EntryC × Int
def LesGood (H : Hp) (l : LesV) : Prop := (∀ (args : Array Value) (w : World), (callFunc l.F args).run Tryz.prog w = .ok (.enter l.F args) w) ∧ ∀ (c : Cache) (H' : Hp) (w : World), H.le H' → Sat H' w → Rules H' → Enc.good H' c → Calls Tryz.prog l.F (#[] ++ [Value.agg (enc c).toArray].toArray ++ l.cap) w (Caches w H' (l.m c.c))
instance : Enc LesV where
  size := 1
  enc l := [.func (.func l.F) #[] l.cap]
  good H l := LesGood H l
  len _ := rfl
  mono hle h := ⟨h.1, fun c H' w hle' => h.2 c H' w (hle.trans hle')⟩
  one _ := rfl
  pos := by decide
def putM (s : SignedC) (zone : Bytes) (now : Int) (c : List EntryC) : List EntryC × Int := if (putC c s zone now).2 = 30 then (c, 0) else putC c s zone now
section
variable {c : Cache} {H : Hp} {w : World} {zone : Bytes} {now life : Int} {q : Question} {s : Signed} {bs bz bn bq bl : Nat}
theorem c_les1 (hs : Sat H w) (hR : Rules H) (hn : H.cells bn 0 [intV now]) (hc : Enc.good H c) (hnow : I64 now) : Calls Tryz.prog 144 #[.agg (enc c).toArray, .pointer (some ⟨bn, 0, none⟩)] w (Caches w H (cleanC c.c now)) := by
  refine T.enter (vs := [.agg (enc c).toArray, .pointer (some ⟨bn, 0, none⟩)]) (H := H) Tryz.func144 rfl rfl rfl hs ?_
  repeat (any_goals (first | refine T.seq ?_ | refine T.region ?_ | refine TL.nil ?_ | refine N.next ?_ | refine N.inBlock ?_ | refine N.exit_same ?_ | refine N.exit_then ?_ | refine N.ret_then ?_ | refine N.ret_block ?_ | (apply N.exit_other; rfl) | refine T.ret ?_ | refine T.skip ?_ | refine T.exit ?_ | refine T.block ?_ | (apply T.cond_true; rfl) | (apply T.cond_false; rfl) | (apply T.test; rfl; (with_reducible (first | exact Is.ndec | exact Is.dec | exact Is.not | ((fail_if_success exact Is.litT); (fail_if_success exact Is.litF); exact Is.base))); intro _; rotate_left; intro _; rotate_right) | (apply TL.skip; rfl; rfl; rfl) | (apply TL.skip_none; rfl; rfl) | (apply TL.val; rfl; rfl; (apply V.load_H; rfl; rfl; rfl; exact hn 0 _ rfl)) | (apply TL.x; rfl; rfl; (apply X.callFE (f := 47) [.agg (enc c).toArray, intV now] Tryz.call47; rfl; rfl; rfl; exact (fun _ hs => c_Clean c now _ _ hs.sat hR hc hnow)); intro p hp) | (apply TL.x; rfl; rfl; (apply X.storeTo 0 (enc p.2); rfl; rfl; rfl; rfl; rfl; rfl; rfl; rfl; rfl; rfl); intro _ _) | (apply TL.val; rfl; rfl; (first | exact vpure | exact vread)) | (apply TL.x; rfl; rfl; (first | exact xgrow | exact xput); intro _ _) | (apply TL.guard; rfl; rfl; rfl; (with_reducible (first | exact Is.ndec | exact Is.dec | exact Is.not | ((fail_if_success exact Is.litT); (fail_if_success exact Is.litF); exact Is.base))); intro _; rotate_left; intro _; rotate_right)))
  exact N.ret2 rfl (by (exact rvx)) (by (exact rvx)) fun w hst => ⟨p, hp.1, rfl, hst.fresh⟩
theorem c_les2 (hs : Sat H w) (hR : Rules H) (hb : H.cells bs 0 (enc s)) (hz : H.cells bz 0 [strV zone]) (hn : H.cells bn 0 [intV now]) (hc : Enc.good H c) (hsg : Enc.good H s) (hzl : LenOk zone) (hnow : I64 now) : Calls Tryz.prog 145 #[.agg (enc c).toArray, .pointer (some ⟨bs, 0, none⟩), .pointer (some ⟨bz, 0, none⟩), .pointer (some ⟨bn, 0, none⟩)] w (Caches w H (putM s.c zone now c.c)) := by
  refine T.enter (vs := [.agg (enc c).toArray, .pointer (some ⟨bs, 0, none⟩), .pointer (some ⟨bz, 0, none⟩), .pointer (some ⟨bn, 0, none⟩)]) (H := H) Tryz.func145 rfl rfl rfl hs ?_
  obtain ⟨⟨r, e⟩, hr⟩ : ∃ x, putC c.c s.c zone now = x := ⟨_, rfl⟩
  have hP : ∀ {w : World}, Sat H w → Calls Tryz.prog 146 #[.agg (enc c).toArray, .agg (enc s).toArray, strV zone, intV now] w (Caches w H (r, e)) := fun hs => hr ▸ c_Put c s zone now _ _ hs hR hc hsg hzl hnow
  repeat (any_goals (first | refine T.seq ?_ | refine T.region ?_ | refine TL.nil ?_ | refine N.next ?_ | refine N.inBlock ?_ | refine N.exit_same ?_ | refine N.exit_then ?_ | refine N.ret_then ?_ | refine N.ret_block ?_ | (apply N.exit_other; rfl) | refine T.ret ?_ | refine T.skip ?_ | refine T.exit ?_ | refine T.block ?_ | (apply T.cond_true; rfl) | (apply T.cond_false; rfl) | (apply T.test; rfl; (with_reducible (first | exact Is.ndec | exact Is.dec | exact Is.not | ((fail_if_success exact Is.litT); (fail_if_success exact Is.litF); exact Is.base))); intro _; rotate_left; intro _; rotate_right) | (apply TL.skip; rfl; rfl; rfl) | (apply TL.skip_none; rfl; rfl) | (apply TL.val; rfl; rfl; (apply V.load_H_row; rfl; rfl; rfl; exact hb; rfl)) | (apply TL.val; rfl; rfl; (apply V.load_H; rfl; rfl; rfl; exact hz 0 _ rfl)) | (apply TL.val; rfl; rfl; (apply V.load_H; rfl; rfl; rfl; exact hn 0 _ rfl)) | (apply TL.x; rfl; rfl; (apply X.callFE (f := 146) [.agg (enc c).toArray, .agg (enc s).toArray, strV zone, intV now] Tryz.call146; rfl; rfl; rfl; exact (fun _ hs => hP hs.sat)); intro p hp; have hc1 := Enc.mono hp.2 hc) | (apply TL.x; rfl; rfl; (apply X.alloc (d := 7); rfl; rfl; rfl); intro b7 _) | (apply TL.x; rfl; rfl; (apply X.storeTo 0 (enc p.2); rfl; rfl; rfl; rfl; rfl; rfl; rfl; rfl; rfl; rfl); intro _ _) | (apply TL.x; rfl; rfl; (apply X.storeTo 1 (enc c); rfl; rfl; rfl; rfl; rfl; rfl; rfl; rfl; rfl; rfl); intro _ _) | (apply TL.x; rfl; rfl; (apply X.storeTo 1 (enc p.2); rfl; rfl; rfl; rfl; rfl; rfl; rfl; rfl; rfl; rfl); intro _ _) | (apply TL.val; rfl; rfl; (first | exact vpure | exact vread)) | (apply TL.x; rfl; rfl; (first | exact xgrow | exact xput); intro _ _) | (apply TL.guard; rfl; rfl; rfl; (with_reducible (first | exact Is.ndec | exact Is.dec | exact Is.not | ((fail_if_success exact Is.litT); (fail_if_success exact Is.litF); exact Is.base))); intro _; rotate_left; intro _; rotate_right)))
  all_goals (try contradiction)
  · have h30 : e = 30 := by assumption
    have hm : putM s.c zone now c.c = (c.c, 0) := by unfold putM; rw [hr, if_pos h30]
    rw [hm]
    exact N.ret2 rfl (by (exact rvx)) (by (exact rvx)) fun w hst => ⟨(p.1, c), ⟨rfl, hc1⟩, rfl, hst.fresh⟩
  · have h30 : ¬ e = 30 := by assumption
    have hm : putM s.c zone now c.c = (r, e) := by unfold putM; rw [hr, if_neg h30]
    rw [hm]
    exact N.ret2 rfl (by (exact rvx)) (by (exact rvx)) fun w hst => ⟨p, hp.1, rfl, hst.fresh⟩
theorem c_les4 (hs : Sat H w) (hR : Rules H) (hb : H.cells bq 0 (enc q)) (hz : H.cells bz 0 [strV zone]) (hl : H.cells bl 0 [intV life]) (hn : H.cells bn 0 [intV now]) (hc : Enc.good H c) (hq : Enc.good H q) (hzl : LenOk zone) (hlf : I64 life) (hnow : I64 now) : Calls Tryz.prog 149 #[.agg (enc c).toArray, .pointer (some ⟨bq, 0, none⟩), .pointer (some ⟨bz, 0, none⟩), .pointer (some ⟨bl, 0, none⟩), .pointer (some ⟨bn, 0, none⟩)] w (Caches w H (denyC c.c q zone life now)) := by
  refine T.enter (vs := [.agg (enc c).toArray, .pointer (some ⟨bq, 0, none⟩), .pointer (some ⟨bz, 0, none⟩), .pointer (some ⟨bl, 0, none⟩), .pointer (some ⟨bn, 0, none⟩)]) (H := H) Tryz.func149 rfl rfl rfl hs ?_
  repeat (any_goals (first | refine T.seq ?_ | refine T.region ?_ | refine TL.nil ?_ | refine N.next ?_ | refine N.inBlock ?_ | refine N.exit_same ?_ | refine N.exit_then ?_ | refine N.ret_then ?_ | refine N.ret_block ?_ | (apply N.exit_other; rfl) | refine T.ret ?_ | refine T.skip ?_ | refine T.exit ?_ | refine T.block ?_ | (apply T.cond_true; rfl) | (apply T.cond_false; rfl) | (apply T.test; rfl; (with_reducible (first | exact Is.ndec | exact Is.dec | exact Is.not | ((fail_if_success exact Is.litT); (fail_if_success exact Is.litF); exact Is.base))); intro _; rotate_left; intro _; rotate_right) | (apply TL.skip; rfl; rfl; rfl) | (apply TL.skip_none; rfl; rfl) | (apply TL.val; rfl; rfl; (apply V.load_H_row; rfl; rfl; rfl; exact hb; rfl)) | (apply TL.val; rfl; rfl; (apply V.load_H; rfl; rfl; rfl; exact hz 0 _ rfl)) | (apply TL.val; rfl; rfl; (apply V.load_H; rfl; rfl; rfl; exact hl 0 _ rfl)) | (apply TL.val; rfl; rfl; (apply V.load_H; rfl; rfl; rfl; exact hn 0 _ rfl)) | (apply TL.x; rfl; rfl; (apply X.callFE (f := 150) [.agg (enc c).toArray, .agg (enc q).toArray, strV zone, intV life, intV now] Tryz.call150; rfl; rfl; rfl; exact (fun _ hs => c_Deny c q zone life now _ _ hs.sat hR hc hq hzl hlf hnow)); intro p hp) | (apply TL.x; rfl; rfl; (apply X.storeTo 0 (enc p.2); rfl; rfl; rfl; rfl; rfl; rfl; rfl; rfl; rfl; rfl); intro _ _) | (apply TL.val; rfl; rfl; (first | exact vpure | exact vread)) | (apply TL.x; rfl; rfl; (first | exact xgrow | exact xput); intro _ _) | (apply TL.guard; rfl; rfl; rfl; (with_reducible (first | exact Is.ndec | exact Is.dec | exact Is.not | ((fail_if_success exact Is.litT); (fail_if_success exact Is.litF); exact Is.base))); intro _; rotate_left; intro _; rotate_right)))
  exact N.ret2 rfl (by (exact rvx)) (by (exact rvx)) fun w hst => ⟨p, hp.1, rfl, hst.fresh⟩
theorem c_les3 (x : Signed) (hs : Sat H w) : Calls Tryz.prog 148 #[.agg (enc x).toArray] w (Ret w (.bool (decide (x.set.typ = 4)))) := by
  refine T.enter (vs := [.agg (enc x).toArray]) (H := H) Tryz.func148 rfl rfl rfl hs ?_
  repeat (any_goals (first | refine T.seq ?_ | refine T.region ?_ | refine TL.nil ?_ | refine N.next ?_ | refine N.inBlock ?_ | refine N.exit_same ?_ | refine N.exit_then ?_ | refine N.ret_then ?_ | refine N.ret_block ?_ | (apply N.exit_other; rfl) | refine T.ret ?_ | refine T.skip ?_ | refine T.exit ?_ | refine T.block ?_ | (apply T.cond_true; rfl) | (apply T.cond_false; rfl) | (apply T.test; rfl; (with_reducible (first | exact Is.ndec | exact Is.dec | exact Is.not | ((fail_if_success exact Is.litT); (fail_if_success exact Is.litF); exact Is.base))); intro _; rotate_left; intro _; rotate_right) | (apply TL.skip; rfl; rfl; rfl) | (apply TL.skip_none; rfl; rfl) | (apply TL.val; rfl; rfl; (first | exact vpure | exact vread)) | (apply TL.x; rfl; rfl; (first | exact xgrow | exact xput); intro _ _) | (apply TL.guard; rfl; rfl; rfl; (with_reducible (first | exact Is.ndec | exact Is.dec | exact Is.not | ((fail_if_success exact Is.litT); (fail_if_success exact Is.litF); exact Is.base))); intro _; rotate_left; intro _; rotate_right)))
  exact N.ret_bool rfl (by (exact rvx)) rfl
end
end Go.Proofs.YtogcofeencgipaaGreatDoor
