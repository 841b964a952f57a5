/- Walks: the chain of lessons. -/
import Derived.Test.YtogcofeencgipaaGreatDoorZQD
namespace Go.Proofs.YtogcofeencgipaaGreatDoor
set_option linter.unusedVariables false
set_option linter.unusedSimpArgs false
open Go Go.RowKit
open Enc (enc)
set_option maxRecDepth 20000
def isStart (s : SignedC) : Bool := decide (s.set.typ = 4)
def lifeOf (s : SignedC) : Int := (s.set.data.headD ⟨[], 0, 0⟩).m
def lesM (zone : Bytes) (q : Question) (k : Int) (l : List SignedC) (now : Int) : List (List EntryC → List EntryC × Int) :=
  ((fun c => cleanC c now) :: l.map fun s => putM s zone now) ++ match l.find? isStart with
    | some s => if k = 5 ∨ k = 6 then [fun c => denyC c q zone (lifeOf s) now] else []
    | none => []
theorem c_IndexStart (s : Slc Signed) (H : Hp) (w : World) (hs : Sat H w) (hg : s.Good H) : Calls Tryz.prog 147 #[s.v, .func (.func 148) #[] #[]] w (Ret w (intV (indexC (fun x => isStart x.c) s.els))) := by
  have hlen := hg.len
  have hlim := hg.lim
  have hcall : ∀ (args : Array Value) (w : World), (callFunc 148 args).run Tryz.prog w = .ok (.enter 148 args) w := Tryz.call148
  have hF : ∀ (x : Signed) (w : World), Sat H w → Calls Tryz.prog 148 (#[] ++ [Value.agg (enc x).toArray].toArray ++ #[]) w (Ret w (.bool (decide (x.set.typ = 4)))) := fun x _ hs => c_les3 x hs
  refine T.enter (vs := [s.v, .func (.func 148) #[] #[]]) (H := H) Tryz.func147 rfl rfl rfl hs ?_
  repeat (any_goals (first | refine T.seq ?_ | refine T.region ?_ | refine TL.nil ?_ | refine N.next ?_ | refine N.inBlock ?_ | refine N.exit_same ?_ | refine N.exit_then ?_ | refine N.ret_then ?_ | refine N.ret_block ?_ | (apply N.exit_other; rfl) | refine T.ret ?_ | refine T.skip ?_ | refine T.exit ?_ | refine T.block ?_ | (apply T.cond_true; rfl) | (apply T.cond_false; rfl) | (apply T.test; rfl; (with_reducible (first | exact Is.ndec | exact Is.dec | exact Is.not | ((fail_if_success exact Is.litT); (fail_if_success exact Is.litF); exact Is.base))); intro _; rotate_left; intro _; rotate_right) | (apply TL.skip; rfl; rfl; rfl) | (apply TL.skip_none; rfl; rfl) | (apply TL.val; rfl; rfl; (first | exact vpure | exact vread)) | (apply TL.x; rfl; rfl; (first | exact xgrow | exact xput); intro _ _) | (apply TL.guard; rfl; rfl; rfl; (with_reducible (first | exact Is.ndec | exact Is.dec | exact Is.not | ((fail_if_success exact Is.litT); (fail_if_success exact Is.litF); exact Is.base))); intro _; rotate_left; intro _; rotate_right)))
  refine T.loop (G := Nat) (fun k => [(0, s.v), (1, .func (.func 148) #[] #[]), (6, s.v), (7, intV s.len), (8, intV k)]) (fun _ => H) (fun _ => []) (fun k => k ≤ s.len ∧ ∀ j (hj : j < s.els.length), j < k → isStart (s.els[j]).c = false) (fun k => s.len - k) 0 ⟨Nat.zero_le _, fun j _ h => by omega⟩ (by (repeat (first | exact True.intro | refine ⟨rfl, ?_⟩ | refine Sub.int rfl (by omega) ?_))) rfl (by (first | exact List.Sublist.refl _ | exact List.nil_sublist _ | exact List.Sublist.cons _ (List.Sublist.refl _) | exact List.Sublist.cons _ (List.Sublist.cons _ (List.Sublist.refl _)))) ?_
  rintro k ⟨hk, hrel⟩
  by_cases hlt : k < s.len
  · have hkl : k < s.els.length := by omega
    repeat (any_goals (first | refine T.seq ?_ | refine T.region ?_ | refine TL.nil ?_ | refine N.next ?_ | refine N.inBlock ?_ | refine N.exit_same ?_ | refine N.exit_then ?_ | refine N.ret_then ?_ | refine N.ret_block ?_ | (apply N.exit_other; rfl) | refine T.ret ?_ | refine T.skip ?_ | refine T.exit ?_ | refine T.block ?_ | (apply T.cond_true; rfl) | (apply T.cond_false; rfl) | (apply T.test; rfl; (with_reducible (first | exact Is.ndec | exact Is.dec | exact Is.not | ((fail_if_success exact Is.litT); (fail_if_success exact Is.litF); exact Is.base))); intro _; rotate_left; intro _; rotate_right) | (apply TL.skip; rfl; rfl; rfl) | (apply TL.skip_none; rfl; rfl) | (apply TL.call; rfl; rfl; rfl; rfl; exact hcall; exact fun _ hs => hF s.els[k] _ hs.sat) | (apply TL.val; rfl; rfl; (first | exact vpure | exact vread)) | (apply TL.x; rfl; rfl; (first | exact xgrow | exact xput); intro _ _) | (apply TL.guard; rfl; rfl; rfl; (with_reducible (first | exact Is.ndec | exact Is.dec | exact Is.not | ((fail_if_success exact Is.litT); (fail_if_success exact Is.litF); exact Is.base))); intro _; rotate_left; intro _; rotate_right)))
    all_goals (try (exfalso; omega))
    · refine N.ret_int rfl (by (exact rvx)) ?_
      exact (indexC_at hkl hrel (decide_eq_true (by assumption))).symm
    · (refine N.round (k + 1) ?_ ?_ ?_ ?_ ?_; rotate_left 2; (repeat (first | exact True.intro | refine ⟨rfl, ?_⟩ | refine Sub.int rfl (by omega) ?_)); rfl; (first | exact List.Sublist.refl _ | exact List.nil_sublist _ | exact List.Sublist.cons _ (List.Sublist.refl _) | exact List.Sublist.cons _ (List.Sublist.cons _ (List.Sublist.refl _))))
      · refine ⟨by omega, fun j hj hjk => ?_⟩
        by_cases e : j = k
        · subst e; exact decide_eq_false (by assumption)
        · exact hrel j hj (by omega)
      · omega
  · repeat (any_goals (first | refine T.seq ?_ | refine T.region ?_ | refine TL.nil ?_ | refine N.next ?_ | refine N.inBlock ?_ | refine N.exit_same ?_ | refine N.exit_then ?_ | refine N.ret_then ?_ | refine N.ret_block ?_ | (apply N.exit_other; rfl) | refine T.ret ?_ | refine T.skip ?_ | refine T.exit ?_ | refine T.block ?_ | (apply T.cond_true; rfl) | (apply T.cond_false; rfl) | (apply T.test; rfl; (with_reducible (first | exact Is.ndec | exact Is.dec | exact Is.not | ((fail_if_success exact Is.litT); (fail_if_success exact Is.litF); exact Is.base))); intro _; rotate_left; intro _; rotate_right) | (apply TL.skip; rfl; rfl; rfl) | (apply TL.skip_none; rfl; rfl) | (apply TL.val; rfl; rfl; (first | exact vpure | exact vread)) | (apply TL.x; rfl; rfl; (first | exact xgrow | exact xput); intro _ _) | (apply TL.guard; rfl; rfl; rfl; (with_reducible (first | exact Is.ndec | exact Is.dec | exact Is.not | ((fail_if_success exact Is.litT); (fail_if_success exact Is.litF); exact Is.base))); intro _; rotate_left; intro _; rotate_right)))
    all_goals (try (exfalso; omega))
    refine N.ret_int rfl (by (exact rvx)) ?_
    exact (indexC_no fun j hj => hrel j hj (by omega)).symm
theorem capn {xs : List Value} {v : Value} : (#[] ++ [v].toArray ++ xs.toArray : Array Value) = (v :: xs).toArray := by simp
theorem find_at {α : Type} {p : α → Bool} {l : List α} {k : Nat} (hk : k < l.length) (hp : p l[k] = true) (hb : ∀ j (hj : j < l.length), j < k → p l[j] = false) : l.find? p = some l[k] :=
  List.find?_eq_some_iff_getElem.2 ⟨hp, k, hk, rfl, fun j hj => by rw [hb j (by omega) hj]; rfl⟩
theorem find_no {α : Type} {p : α → Bool} {l : List α} (h : ∀ x ∈ l, p x = false) : l.find? p = none :=
  List.find?_eq_none.2 fun x hx => by rw [h x hx]; decide
theorem find_starts {l : List Signed} : (l.map Signed.c).find? isStart = (l.find? fun x => isStart x.c).map Signed.c := by
  rw [List.find?_map]; rfl
theorem les_good1 {H : Hp} {bn : Nat} {now : Int} (hn : H.cells bn 0 [intV now]) (hnow : I64 now) : LesGood H ⟨144, #[.pointer (some ⟨bn, 0, none⟩)], fun c => cleanC c now⟩ :=
  ⟨Tryz.call144, fun c H' w hle hs hR hc => capn ▸ c_les1 hs hR (Hp.cells_le hle hn) hc hnow⟩
theorem les_good2 {H : Hp} {s : Signed} {zone : Bytes} {bs bz bn : Nat} {now : Int} (hb : H.cells bs 0 (enc s)) (hz : H.cells bz 0 [strV zone]) (hn : H.cells bn 0 [intV now]) (hsg : Enc.good H s) (hzl : LenOk zone) (hnow : I64 now) : LesGood H ⟨145, #[.pointer (some ⟨bs, 0, none⟩), .pointer (some ⟨bz, 0, none⟩), .pointer (some ⟨bn, 0, none⟩)], putM s.c zone now⟩ :=
  ⟨Tryz.call145, fun c H' w hle hs hR hc => capn ▸ c_les2 hs hR (Hp.cells_le hle hb) (Hp.cells_le hle hz) (Hp.cells_le hle hn) hc (Enc.mono hle hsg) hzl hnow⟩
theorem les_good4 {H : Hp} {q : Question} {zone : Bytes} {bq bz bl bn : Nat} {life now : Int} (hb : H.cells bq 0 (enc q)) (hz : H.cells bz 0 [strV zone]) (hl : H.cells bl 0 [intV life]) (hn : H.cells bn 0 [intV now]) (hq : Enc.good H q) (hzl : LenOk zone) (hlf : I64 life) (hnow : I64 now) : LesGood H ⟨149, #[.pointer (some ⟨bq, 0, none⟩), .pointer (some ⟨bz, 0, none⟩), .pointer (some ⟨bl, 0, none⟩), .pointer (some ⟨bn, 0, none⟩)], fun c => denyC c q zone life now⟩ :=
  ⟨Tryz.call149, fun c H' w hle hs hR hc => capn ▸ c_les4 hs hR (Hp.cells_le hle hb) (Hp.cells_le hle hz) (Hp.cells_le hle hl) (Hp.cells_le hle hn) hc (Enc.mono hle hq) hzl hlf hnow⟩
theorem les_end {w0 w : World} {H0 H : Hp} {L : List Loc} {v : Value} {n : Nat} {els : List LesV} {r : List (List EntryC → List EntryC × Int)} (hst : St w0 H0 H L w) (hsub : List.Sublist [.row v 140 1 n (encs els)] L) (hl : els.length = n) (hg : ∀ x ∈ els, Enc.good H x) (hr : els.map LesV.m = r) (hn : n ≤ 50) : RetF w0 H0 (fun g : Hp × Slc LesV => g.2.els.map LesV.m = r ∧ g.2.Good g.1 ∧ g.2.len ≤ 50) (fun g => g.2.v) (fun g => g.1) (.returned v) w := by
  subst hr
  obtain ⟨H', s, h1, h2, h3, h4, h5⟩ := (hst.sub hsub).freezeRow rfl hl hg
  exact ⟨(H', s), ⟨by show s.els.map LesV.m = _; rw [h2], h3, by show s.len ≤ 50; rw [← h3.len, h2]; omega⟩, by rw [← h1], h5.fresh⟩
set_option maxHeartbeats 8000000 in
theorem c_lessons (zone : Bytes) (q : Question) (a : Answer) (l : Slc Signed) (now : Int) (H : Hp) (w : World) (hs : Sat H w) (hz : LenOk zone) (hq : Enc.good H q) (ha : Enc.good H a) (hl : l.Good H) (hl40 : l.len ≤ 40) (hset : ∀ x ∈ l.els, setOK x.set.c = true) (hnow : I64 now) : Calls Tryz.prog 90 #[strV zone, .agg (enc q).toArray, .agg (enc a).toArray, l.v, intV now] w (RetF w H (fun g : Hp × Slc LesV => g.2.els.map LesV.m = lesM zone q a.kind (l.els.map Signed.c) now ∧ g.2.Good g.1 ∧ g.2.len ≤ 50) (fun g => g.2.v) (fun g => g.1)) := by
  have hlen := hl.len
  have hlim := hl.lim
  refine T.enter (vs := [strV zone, .agg (enc q).toArray, .agg (enc a).toArray, l.v, intV now]) (H := H) Tryz.func90 rfl rfl rfl hs ?_
  repeat (any_goals (first | refine T.seq ?_ | refine T.region ?_ | refine TL.nil ?_ | refine N.next ?_ | refine N.inBlock ?_ | refine N.exit_same ?_ | refine N.exit_then ?_ | refine N.ret_then ?_ | refine N.ret_block ?_ | (apply N.exit_other; rfl) | refine T.ret ?_ | refine T.skip ?_ | refine T.exit ?_ | refine T.block ?_ | (apply T.cond_true; rfl) | (apply T.cond_false; rfl) | (apply T.test; rfl; (with_reducible (first | exact Is.ndec | exact Is.dec | exact Is.not | ((fail_if_success exact Is.litT); (fail_if_success exact Is.litF); exact Is.base))); intro _; rotate_left; intro _; rotate_right) | (apply TL.skip; rfl; rfl; rfl) | (apply TL.skip_none; rfl; rfl) | (apply TL.x; rfl; rfl; (apply X.box (d := 5); rfl; rfl; rfl); intro b5 _; apply TL.frz 0; rfl; intro Hz z5 hlez) | (apply TL.x; rfl; rfl; (apply X.box (d := 6); rfl; rfl; rfl); intro b6 _; apply TL.frz 0; rfl; intro Hq z6 hleq) | (apply TL.x; rfl; rfl; (apply X.box (d := 7); rfl; rfl; rfl); intro b7 _) | (apply TL.x; rfl; rfl; (apply X.box (d := 9); rfl; rfl; rfl); intro b9 _; apply TL.frz 0; rfl; intro H1 z9 hle9) | (apply TL.val; rfl; rfl; (apply V.makeFunc (vs := []) (us := [.pointer (some ⟨b9, 0, none⟩)]) <;> rfl)) | (apply TL.x; rfl; rfl; (apply X.buildSlice1 (d := 17); rfl; rfl; rfl; rfl; rfl; rfl; rfl; rfl); intro b17 _; apply TL.blkRow 0 1 1; rfl; rfl; decide) | (apply TL.val; rfl; rfl; (first | exact vpure | exact vread)) | (apply TL.x; rfl; rfl; (first | exact xgrow | exact xput); intro _ _) | (apply TL.guard; rfl; rfl; rfl; (with_reducible (first | exact Is.ndec | exact Is.dec | exact Is.not | ((fail_if_success exact Is.litT); (fail_if_success exact Is.litF); exact Is.base))); intro _; rotate_left; intro _; rotate_right)))
  have y5 := Hp.cells_le (hleq.trans hle9) z5
  have y6 := Hp.cells_le hle9 z6
  have hle1 : H.le H1 := (hlez.trans hleq).trans hle9
  refine T.loop (G := Hp × List LesV × Value × Nat) (fun g => [(3, l.v), (5, .pointer (some ⟨b5, 0, none⟩)), (6, .pointer (some ⟨b6, 0, none⟩)), (7, .pointer (some ⟨b7, 0, none⟩)), (9, .pointer (some ⟨b9, 0, none⟩)), (11, g.2.2.1), (18, l.v), (19, intV l.len), (20, intV g.2.2.2)]) (fun g => g.1) (fun g => [.row g.2.2.1 140 1 g.2.1.length (encs g.2.1), .blk b7 26 (enc a)]) (fun g => H1.le g.1 ∧ g.2.2.2 ≤ l.len ∧ g.2.1.length = g.2.2.2 + 1 ∧ (∀ y ∈ g.2.1, Enc.good g.1 y) ∧ g.2.1.map LesV.m = (fun c => cleanC c now) :: ((l.els.map Signed.c).take g.2.2.2).map (fun s => putM s zone now)) (fun g => l.len - g.2.2.2) (H1, [⟨144, #[.pointer (some ⟨b9, 0, none⟩)], fun c => cleanC c now⟩], .slice (some ⟨b17, 0, none⟩) 1 1, 0) ⟨Hp.le.refl _, Nat.zero_le _, rfl, by intro y hy; rw [List.mem_singleton.1 hy]; exact les_good1 z9 hnow, rfl⟩ (by (repeat (first | exact True.intro | refine ⟨rfl, ?_⟩ | refine Sub.int rfl (by omega) ?_))) rfl (by (repeat (first | exact List.Sublist.refl _ | exact List.nil_sublist _ | apply List.Sublist.cons_cons | apply List.Sublist.cons))) ?_
  rintro ⟨Hk, ys, yv, i⟩ ⟨hlek, hi, hyl, hyg, hys⟩
  simp only at hlek hi hyl hyg hys ⊢
  by_cases hlt : i < l.len
  · have hk2 : i < l.els.length := by omega
    have hgk := (hl.mono hle1).mono hlek
    have hx := hgk.els _ (List.getElem_mem hk2)
    have hci : (l.els.map Signed.c)[i]? = some (l.els[i]'hk2).c := by
      rw [List.getElem?_map, List.getElem?_eq_getElem hk2]; rfl
    repeat (any_goals (first | refine T.seq ?_ | refine T.region ?_ | refine TL.nil ?_ | refine N.next ?_ | refine N.inBlock ?_ | refine N.exit_same ?_ | refine N.exit_then ?_ | refine N.ret_then ?_ | refine N.ret_block ?_ | (apply N.exit_other; rfl) | refine T.ret ?_ | refine T.skip ?_ | refine T.exit ?_ | refine T.block ?_ | (apply T.cond_true; rfl) | (apply T.cond_false; rfl) | (apply T.test; rfl; (with_reducible (first | exact Is.ndec | exact Is.dec | exact Is.not | ((fail_if_success exact Is.litT); (fail_if_success exact Is.litF); exact Is.base))); intro _; rotate_left; intro _; rotate_right) | (apply TL.skip; rfl; rfl; rfl) | (apply TL.skip_none; rfl; rfl) | (apply TL.x; rfl; rfl; (apply X.storeTo 0 (enc (l.els[i]'hk2)); rfl; rfl; rfl; rfl; rfl; rfl; rfl; rfl; rfl; rfl); intro _ _; apply TL.frz 0; rfl; intro H2 z13 hle2) | (apply TL.x; rfl; rfl; (apply X.alloc (d := 13); rfl; rfl; rfl); intro b13 _) | (apply TL.val; rfl; rfl; (apply V.makeFunc (vs := []) (us := [.pointer (some ⟨b13, 0, none⟩), .pointer (some ⟨b5, 0, none⟩), .pointer (some ⟨b9, 0, none⟩)]) <;> rfl)) | (apply TL.x; rfl; rfl; (apply X.buildSlice1 (d := 26); rfl; rfl; rfl; rfl; rfl; rfl; rfl; rfl); intro b26 _) | (apply TL.x; rfl; rfl; (apply X.append1 1; rfl; rfl; rfl; rfl; rfl; rfl; rfl; rfl; rfl; exact List.Mem.head _; rfl; rfl; rfl; (refine Nat.le_trans (Nat.mul_le_mul_right _ (show _ ≤ 1000 by omega)) ?_; decide); omega); intro pa _) | (apply TL.val; rfl; rfl; (first | exact vpure | exact vread)) | (apply TL.x; rfl; rfl; (first | exact xgrow | exact xput); intro _ _) | (apply TL.guard; rfl; rfl; rfl; (with_reducible (first | exact Is.ndec | exact Is.dec | exact Is.not | ((fail_if_success exact Is.litT); (fail_if_success exact Is.litF); exact Is.base))); intro _; rotate_left; intro _; rotate_right)))
    all_goals (try (exfalso; omega))
    refine N.round (H2, ys ++ [⟨145, #[.pointer (some ⟨b13, 0, none⟩), .pointer (some ⟨b5, 0, none⟩), .pointer (some ⟨b9, 0, none⟩)], putM (l.els[i]'hk2).c zone now⟩], .slice (some ⟨pa.1, 0, none⟩) (ys.length + 1) pa.2, i + 1) ⟨hlek.trans hle2, by show i + 1 ≤ _; omega, by simp; omega, ?_, ?_⟩ (by show l.len - (i + 1) < l.len - i; omega) (by simp only [List.length_append, List.length_cons, List.length_nil]; (repeat (first | exact True.intro | refine ⟨rfl, ?_⟩ | refine Sub.int rfl (by omega) ?_))) rfl ?_
    · intro y0 hy0
      rcases List.mem_append.1 hy0 with h | h
      · exact Enc.mono hle2 (hyg y0 h)
      · rw [List.mem_singleton.1 h]
        exact les_good2 z13 (Hp.cells_le (hlek.trans hle2) y5) (Hp.cells_le (hlek.trans hle2) z9) (Enc.mono hle2 hx) hz hnow
    · rw [List.map_append, hys, List.take_add_one, hci, List.map_append]; rfl
    · simp only [List.length_append, List.length_cons, List.length_nil, Nat.zero_add, encs_snoc]
      exact List.Sublist.cons _ (List.Sublist.refl _)
  · have hie : i = l.len := by omega
    subst hie
    have hgk := (hl.mono hle1).mono hlek
    rw [List.take_of_length_le (by rw [List.length_map]; omega)] at hys
    obtain ⟨hI, hno⟩ | ⟨k, hk, hI, hkp, hkb⟩ := indexC_cases (fun x : Signed => isStart x.c) l.els
    · have hlm : lesM zone q a.kind (l.els.map Signed.c) now = ys.map LesV.m := by
        unfold lesM; rw [find_starts, find_no hno, hys]; simp
      repeat (any_goals (first | refine T.seq ?_ | refine T.region ?_ | refine TL.nil ?_ | refine N.next ?_ | refine N.inBlock ?_ | refine N.exit_same ?_ | refine N.exit_then ?_ | refine N.ret_then ?_ | refine N.ret_block ?_ | (apply N.exit_other; rfl) | refine T.ret ?_ | refine T.skip ?_ | refine T.exit ?_ | refine T.block ?_ | (apply T.cond_true; rfl) | (apply T.cond_false; rfl) | (apply T.test; rfl; (with_reducible (first | exact Is.ndec | exact Is.dec | exact Is.not | ((fail_if_success exact Is.litT); (fail_if_success exact Is.litF); exact Is.base))); intro _; rotate_left; intro _; rotate_right) | (apply TL.skip; rfl; rfl; rfl) | (apply TL.skip_none; rfl; rfl) | (apply TL.callE (f := 147) [l.v, .func (.func 148) #[] #[]] Tryz.call147; rfl; rfl; rfl; rfl; (exact fun _ hs => hI ▸ c_IndexStart l _ _ hs.sat hgk)) | (apply TL.val; rfl; rfl; (first | exact vpure | exact vread)) | (apply TL.x; rfl; rfl; (first | exact xgrow | exact xput); intro _ _) | (apply TL.guard; rfl; rfl; rfl; (with_reducible (first | exact Is.ndec | exact Is.dec | exact Is.not | ((fail_if_success exact Is.litT); (fail_if_success exact Is.litF); exact Is.base))); intro _; rotate_left; intro _; rotate_right)))
      all_goals (try (exfalso; omega))
      all_goals
        refine N.ret1 rfl (by (exact rvx)) fun w hst => ?_
        refine les_end hst (by (repeat (first | exact List.Sublist.refl _ | exact List.nil_sublist _ | apply List.Sublist.cons_cons | apply List.Sublist.cons))) rfl hyg ?_ ?_
        · exact hlm.symm
        · omega
    · have hds := hset _ (List.getElem_mem hk)
      have hx := hgk.els _ (List.getElem_mem hk)
      have hp0 : 0 < (l.els[k]'hk).set.data.els.length := by
        have h := hds; unfold setOK at h; simp only [Bool.and_eq_true, decide_eq_true_eq] at h
        have h2 : 1 ≤ ((l.els[k]'hk).set.c.data).length := h.1.1.1.1.2.1
        exact h2
      have hpos : 0 < (l.els[k]'hk).set.data.len := by rw [← hx.1.2.2.2.len]; exact hp0
      have hlf : lifeOf (l.els[k]'hk).c = ((l.els[k]'hk).set.data.els[0]'hp0).m := by
        show (List.headD (l.els[k]'hk).set.data.els ⟨[], 0, 0⟩).m = _
        generalize (l.els[k]'hk).set.data.els = xs at hp0
        cases xs with
        | nil => simp at hp0
        | cons x t => rfl
      have hlm : lesM zone q a.kind (l.els.map Signed.c) now = ys.map LesV.m ++ if a.kind = 5 ∨ a.kind = 6 then [fun c => denyC c q zone (lifeOf (l.els[k]'hk).c) now] else [] := by
        unfold lesM; rw [find_starts, find_at hk hkp hkb, hys]; rfl
      repeat (any_goals (first | refine T.seq ?_ | refine T.region ?_ | refine TL.nil ?_ | refine N.next ?_ | refine N.inBlock ?_ | refine N.exit_same ?_ | refine N.exit_then ?_ | refine N.ret_then ?_ | refine N.ret_block ?_ | (apply N.exit_other; rfl) | refine T.ret ?_ | refine T.skip ?_ | refine T.exit ?_ | refine T.block ?_ | (apply T.cond_true; rfl) | (apply T.cond_false; rfl) | (apply T.test; rfl; (with_reducible (first | exact Is.ndec | exact Is.dec | exact Is.not | ((fail_if_success exact Is.litT); (fail_if_success exact Is.litF); exact Is.base))); intro _; rotate_left; intro _; rotate_right) | (apply TL.skip; rfl; rfl; rfl) | (apply TL.skip_none; rfl; rfl) | (apply TL.callE (f := 147) [l.v, .func (.func 148) #[] #[]] Tryz.call147; rfl; rfl; rfl; rfl; (exact fun _ hs => hI ▸ c_IndexStart l _ _ hs.sat hgk)) | (apply TL.val; rfl; rfl; (apply V.elem (j := 0); rfl; rfl; rfl; rfl; rfl; rfl; exact hpos; exact hx.1.2.2.2.at_ hpos)) | (apply TL.val; rfl; rfl; (apply V.load_H; rfl; rfl; rfl; exact hx.1.2.2.2.cell hpos rfl)) | (apply TL.x; rfl; rfl; (apply X.storeTo 0 [intV ((l.els[k]'hk).set.data.els[0]'hp0).m]; rfl; rfl; rfl; rfl; rfl; rfl; rfl; rfl; rfl; rfl); intro _ _; apply TL.frz 0; rfl; intro H2 z15 hle2) | (apply TL.x; rfl; rfl; (apply X.alloc (d := 15); rfl; rfl; rfl); intro b15 _) | (apply TL.val; rfl; rfl; (apply V.makeFunc (vs := []) (us := [.pointer (some ⟨b6, 0, none⟩), .pointer (some ⟨b5, 0, none⟩), .pointer (some ⟨b15, 0, none⟩), .pointer (some ⟨b9, 0, none⟩)]) <;> rfl)) | (apply TL.x; rfl; rfl; (apply X.buildSlice1 (d := 54); rfl; rfl; rfl; rfl; rfl; rfl; rfl; rfl); intro b54 _) | (apply TL.x; rfl; rfl; (apply X.append1 1; rfl; rfl; rfl; rfl; rfl; rfl; rfl; rfl; rfl; exact List.Mem.head _; rfl; rfl; rfl; (refine Nat.le_trans (Nat.mul_le_mul_right _ (show _ ≤ 1000 by omega)) ?_; decide); omega); intro pa _) | (apply TL.val; rfl; rfl; (first | exact vpure | exact vread)) | (apply TL.x; rfl; rfl; (first | exact xgrow | exact xput); intro _ _) | (apply TL.guard; rfl; rfl; rfl; (with_reducible (first | exact Is.ndec | exact Is.dec | exact Is.not | ((fail_if_success exact Is.litT); (fail_if_success exact Is.litF); exact Is.base))); intro _; rotate_left; intro _; rotate_right)))
      all_goals (try (exfalso; omega))
      all_goals first
        | (have h56 : a.kind = 5 ∨ a.kind = 6 := by
             first
               | exact Or.inl (by assumption)
               | exact Or.inr (by assumption)
           rw [if_pos h56, hlf] at hlm
           refine N.ret1 rfl (by (exact rvx)) fun w hst => ?_
           refine les_end (els := ys ++ [⟨149, #[.pointer (some ⟨b6, 0, none⟩), .pointer (some ⟨b5, 0, none⟩), .pointer (some ⟨b15, 0, none⟩), .pointer (some ⟨b9, 0, none⟩)], fun c => denyC c q zone ((l.els[k]'hk).set.data.els[0]'hp0).m now⟩]) hst ?_ (List.length_append ..) ?_ ?_ ?_
           · simp only [encs_snoc]
             exact List.Sublist.cons _ (List.Sublist.cons_cons _ (List.nil_sublist _))
           · intro y0 hy0
             rcases List.mem_append.1 hy0 with h | h
             · exact Enc.mono hle2 (hyg y0 h)
             · rw [List.mem_singleton.1 h]
               exact les_good4 (Hp.cells_le (hlek.trans hle2) y6) (Hp.cells_le (hlek.trans hle2) y5) z15 (Hp.cells_le (hlek.trans hle2) z9) (Enc.mono (hle1.trans (hlek.trans hle2)) hq) hz (hx.1.2.2.2.els _ (List.getElem_mem hp0)).2.2 hnow
           · rw [hlm, List.map_append]; rfl
           · show ys.length + 1 ≤ 50; omega)
        | (have h56 : ¬ (a.kind = 5 ∨ a.kind = 6) := by
             rintro (h | h) <;> contradiction
           rw [if_neg h56, List.append_nil] at hlm
           refine N.ret1 rfl (by (exact rvx)) fun w hst => ?_
           refine les_end hst (by (repeat (first | exact List.Sublist.refl _ | exact List.nil_sublist _ | apply List.Sublist.cons_cons | apply List.Sublist.cons))) rfl hyg ?_ ?_
           · exact hlm.symm
           · omega)
end Go.Proofs.YtogcofeencgipaaGreatDoor
