import Derived.Test.YthabgdbhgcgemaaGreatDoorQNA
import Derived.Test.YthabgdbhgcgemaaGreatDoorQZC
namespace Go.Proofs.YthabgdbhgcgemaaGreatDoor
set_option linter.unusedVariables false
set_option linter.unusedSimpArgs false
open Go Go.RowKit
set_option maxRecDepth 20000
def FormAt (l : List Sig) (apex : Bytes) (k : Nat) (h : k < l.length) : Prop := l[k].zone = apex ∧ (1 ≤ l[k].key ∧ l[k].key ≤ 1000000) ∧ (1 ≤ l[k].alg ∧ l[k].alg ≤ 3) ∧ l[k].frm = (l[0]'(by omega)).frm ∧ l[k].til = (l[0]'(by omega)).til ∧ (0 ≤ l[k].frm ∧ l[k].frm ≤ l[k].til ∧ l[k].til ≤ 20000000) ∧ (0 < k → (l[k - 1]'(by omega)).key < l[k].key)
def FormTo (l : List Sig) (apex : Bytes) (k : Nat) : Prop := ∀ j (h : j < l.length), j < k → FormAt l apex j h
theorem form_up {l : List Sig} {apex : Bytes} {k : Nat} (h : FormTo l apex k) (hk : k < l.length) (ha : FormAt l apex k hk) : FormTo l apex (k + 1) := fun j hj hjk => by
  by_cases e : j = k
  · subst e; exact ha
  · exact h j hj (by omega)
theorem form_iff (l : List Sig) (apex : Bytes) : sigsForm l apex = true ↔ l.length ≤ 6 ∧ FormTo l apex l.length := by
  have hd : ∀ j (h : j < l.length), l.headD l[j] = l[0]'(by omega) := fun j h => by
    cases l with
    | nil => simp at h
    | cons x r => rfl
  unfold sigsForm
  rw [Bool.and_eq_true, Bool.and_eq_true, decide_eq_true_eq, chain_iff, List.all_eq_true]
  constructor
  · rintro ⟨⟨h1, h2⟩, h3⟩
    refine ⟨h1, fun j hj _ => ?_⟩
    have h4 := h2 l[j] (List.getElem_mem hj)
    rw [hd j hj] at h4
    unfold sigForm at h4
    simp only [Bool.and_eq_true, decide_eq_true_eq] at h4
    refine ⟨h4.1.1.1.1.1, h4.1.1.1.1.2, h4.1.1.1.2, h4.1.1.2, h4.1.2, h4.2, fun h0 => ?_⟩
    have := h3 j hj h0
    unfold keyLt at this
    exact of_decide_eq_true this
  · rintro ⟨h1, h2⟩
    refine ⟨⟨h1, fun x hx => ?_⟩, fun j hj h0 => ?_⟩
    · obtain ⟨j, hj, rfl⟩ := List.mem_iff_getElem.1 hx
      obtain ⟨a1, a2, a3, a4, a5, a6, _⟩ := h2 j hj hj
      rw [hd j hj]
      unfold sigForm
      simp only [Bool.and_eq_true, decide_eq_true_eq]
      exact ⟨⟨⟨⟨⟨a1, a2⟩, a3⟩, a4⟩, a5⟩, a6⟩
    · unfold keyLt
      exact decide_eq_true ((h2 j hj hj).2.2.2.2.2.2 h0)
theorem form_no {l : List Sig} {apex : Bytes} {k : Nat} (hk : k < l.length) (h : ¬ FormAt l apex k hk) : false = sigsForm l apex := by
  rw [eq_comm, Bool.eq_false_iff]
  intro hf
  exact h (((form_iff l apex).1 hf).2 k hk hk)
theorem form_yes {l : List Sig} {apex : Bytes} (h6 : l.length ≤ 6) (h : FormTo l apex l.length) : true = sigsForm l apex := ((form_iff l apex).2 ⟨h6, h⟩).symm
theorem form_long {l : List Sig} {apex : Bytes} (h6 : ¬ l.length ≤ 6) : false = sigsForm l apex := by
  rw [eq_comm, Bool.eq_false_iff]
  intro hf
  exact h6 ((form_iff l apex).1 hf).1
set_option maxHeartbeats 4000000 in
theorem c_Sigs06 (s : Slc Sig) (apex : Bytes) (H : Hp) (w : World) (hs : Sat H w) (hg : s.Good H) (ha : LenOk apex) : Calls Tryz.prog 126 #[s.v, strV apex] w (Ret w (.bool (sigsForm s.els apex))) := by
  have hlen := hg.len
  refine T.enter (vs := [s.v, strV apex]) (H := H) Tryz.func126 rfl rfl rfl hs ?_
  repeat (any_goals (first | refine T.seq ?_ | refine T.region ?_ | refine TL.nil ?_ | refine N.next ?_ | refine N.ret_then ?_ | refine T.ret ?_ | refine T.skip ?_ | refine T.block ?_ | (apply T.test; rfl; (exact isx); intro _; rotate_left; intro _; rotate_right) | (apply TL.val; rfl; rfl; (first | exact vpure | exact vread))))
  all_goals (try (first | (apply N.ret_bool; rfl; (exact rvx)) | (apply N.ret_int; rfl; (exact rvx)) | (apply N.ret_val; rfl; (exact rvx))))
  · exact form_long (by omega)
  · refine T.loop (G := Nat) (fun k => [(0, s.v), (1, strV apex), (5, intV k)]) (fun _ => H) (fun _ => []) (fun k => k ≤ s.len ∧ FormTo s.els apex k) (fun k => s.len - k) 0 ⟨Nat.zero_le _, fun j _ h => by omega⟩ (by (repeat (first | exact True.intro | refine ⟨rfl, ?_⟩ | refine Sub.int rfl (by omega) ?_))) rfl (by (first | exact List.Sublist.refl _ | exact List.nil_sublist _ | exact List.Sublist.cons _ (List.Sublist.refl _) | exact List.Sublist.cons _ (List.Sublist.cons _ (List.Sublist.refl _)))) ?_
    rintro k ⟨hk, hrel⟩
    by_cases hlt : k < s.len
    · have hpos : 0 < s.len := by omega
      have hkl : k < s.els.length := by omega
      repeat (any_goals (first | refine T.seq ?_ | refine T.region ?_ | (apply T.regionD wide; rfl) | refine TL.nil ?_ | refine N.next ?_ | refine N.inBlock ?_ | refine N.exit_same ?_ | refine N.exit_then ?_ | refine N.ret_then ?_ | refine N.ret_block ?_ | refine T.ret ?_ | refine T.skip ?_ | refine T.exit ?_ | refine T.block ?_ | (apply T.cond_true; rfl) | (apply T.cond_false; rfl) | (apply T.test; rfl; (exact isx); intro _; rotate_left; intro _; rotate_right) | (apply TL.skip; rfl; rfl; rfl) | (apply GT.skip; rfl; rfl; rfl; decide +kernel) | (apply TL.val; rfl; rfl; (first | exact vpure | exact vread)) | (apply GT.pure; (iterate 4 rfl); (first | exact vpure); decide +kernel) | (apply GT.read; (iterate 4 rfl); (first | exact vpure | exact vread); decide +kernel) | (apply GT.done; decide +kernel; apply N.ofQ) | (apply TL.x; rfl; rfl; (first | exact xgrow | exact xput); intro _ _) | (apply TL.guard; rfl; rfl; rfl; (exact isx); intro _; rotate_left; intro _; rotate_right) | (apply GT.guard; (iterate 4 rfl); (exact isx); intro _; rotate_left; intro _; rotate_right)))
      all_goals (try simp only [show ((k : Int) - 1).toNat = k - 1 by omega] at *)
      all_goals (try (exfalso; omega))
      all_goals first
        | ((refine N.round (k + 1) ?_ ?_ ?_ ?_ ?_; rotate_left 2; (repeat (first | exact True.intro | refine ⟨rfl, ?_⟩ | refine Sub.int rfl (by omega) ?_)); rfl; (first | exact List.Sublist.refl _ | exact List.nil_sublist _ | exact List.Sublist.cons _ (List.Sublist.refl _) | exact List.Sublist.cons _ (List.Sublist.cons _ (List.Sublist.refl _))))
           · exact ⟨by omega, form_up hrel hkl ⟨by assumption, ⟨by omega, by omega⟩, ⟨by omega, by omega⟩, by assumption, by assumption, ⟨by omega, by omega, by omega⟩, fun h0 => by first | omega | trace_state⟩⟩
           · omega)
        | (refine N.ret_bool rfl (by (exact rvx)) (form_no hkl ?_)
           rintro ⟨f1, ⟨f2, f3⟩, ⟨f4, f5⟩, f6, f7, ⟨f8, f9, f10⟩, f11⟩
           first
             | omega
             | exact absurd f1 (by assumption)
             | exact absurd f6 (by assumption)
             | exact absurd f7 (by assumption)
             | (have := f11 (by omega); omega))
        | trace_state
    · repeat (any_goals (first | refine T.seq ?_ | refine T.region ?_ | (apply T.regionD wide; rfl) | refine TL.nil ?_ | refine N.next ?_ | refine N.inBlock ?_ | refine N.exit_same ?_ | refine N.exit_then ?_ | refine N.ret_then ?_ | refine N.ret_block ?_ | refine T.ret ?_ | refine T.skip ?_ | refine T.exit ?_ | refine T.block ?_ | (apply T.cond_true; rfl) | (apply T.cond_false; rfl) | (apply T.test; rfl; (exact isx); intro _; rotate_left; intro _; rotate_right) | (apply TL.skip; rfl; rfl; rfl) | (apply GT.skip; rfl; rfl; rfl; decide +kernel) | (apply TL.val; rfl; rfl; (first | exact vpure | exact vread)) | (apply GT.pure; (iterate 4 rfl); (first | exact vpure); decide +kernel) | (apply GT.read; (iterate 4 rfl); (first | exact vpure | exact vread); decide +kernel) | (apply GT.done; decide +kernel; apply N.ofQ) | (apply TL.x; rfl; rfl; (first | exact xgrow | exact xput); intro _ _) | (apply TL.guard; rfl; rfl; rfl; (exact isx); intro _; rotate_left; intro _; rotate_right) | (apply GT.guard; (iterate 4 rfl); (exact isx); intro _; rotate_left; intro _; rotate_right)))
      all_goals (try (exfalso; omega))
      all_goals (try (first | (apply N.ret_bool; rfl; (exact rvx)) | (apply N.ret_int; rfl; (exact rvx)) | (apply N.ret_val; rfl; (exact rvx))))
      all_goals first
        | exact form_yes (by omega) (fun j hj _ => hrel j hj (by omega))
        | trace_state
end Go.Proofs.YthabgdbhgcgemaaGreatDoor
namespace Go.Proofs.YthabgdbhgcgemaaGreatDoor
set_option linter.unusedVariables false
set_option linter.unusedSimpArgs false
open Go Go.RowKit
open Enc (enc)
set_option maxRecDepth 20000
instance instEncBoolZ : Enc Bool where
  size := 1
  enc b := [.bool b]
  good _ _ := True
  len _ := rfl
  mono _ h := h
  one _ := rfl
  pos := by decide
theorem setsC_len (z : ZoneV) : z.c.sets.length = z.sets.els.length := by unfold ZoneV.c; rw [List.length_map]
theorem setsC_at {z : ZoneV} {i : Nat} (h : i < z.c.sets.length) (h' : i < z.sets.els.length) : z.c.sets[i] = z.sets.els[i].c := by
  have e : z.c.sets[i]? = some z.sets.els[i].c := by
    unfold ZoneV.c
    rw [List.getElem?_map, List.getElem?_eq_getElem h']; rfl
  rw [List.getElem?_eq_getElem h] at e
  exact Option.some.inj e
def OneTo (z : ZoneV) (k : Nat) : Prop := ∀ j (hj : j < z.sets.els.length), j < k → setOK z.sets.els[j].set.c = true ∧ inN z.sets.els[j].set.name z.apex = true ∧ ∀ h0 : 0 < j, ordSet (z.sets.els[j - 1]'(by omega)).set.c z.sets.els[j].set.c < 0
theorem setOK_name {s : SetC} (h : setOK s = true) : nameOK s.name = true := by
  unfold setOK at h
  simp only [Bool.and_eq_true] at h
  exact h.1.1.1.1.1.1.1
theorem c_V01 (s : Bytes) {v : Bool} (h : nameOK s = v) {H : Hp} {w : World} (hs : Sat H w) (hl : LenOk s) : Calls Tryz.prog 118 #[strV s] w (Ret w (.bool v)) := h ▸ c_nameValid01 s H w hs hl
theorem c_W01 (s : Bytes) {v : Bool} (h : wildN s = v) {H : Hp} {w : World} (hs : Sat H w) (hl : s.length ≤ 1000000) : Calls Tryz.prog 119 #[strV s] w (Ret w (.bool v)) := h ▸ c_Wild01 s H w hs hl
theorem c_In01 (s z : Bytes) {v : Bool} (h : inN s z = v) {H : Hp} {w : World} (hs : Sat H w) (hl : s.length ≤ 1000000) (hz : z.length ≤ 1000000) : Calls Tryz.prog 121 #[strV s, strV z] w (Ret w (.bool v)) := h ▸ c_In s z H w hs hl hz
theorem c_V02 (x : RSet) {v : Bool} (h : setOK x.c = v) {H : Hp} {w : World} (hs : Sat H w) (hg : Enc.good H x) : Calls Tryz.prog 120 #[.agg (enc x).toArray] w (Ret w (.bool v)) := h ▸ c_Valid02 x H w hs hg
theorem c_O02 (x y : RSet) {o : Int} (h : ordSet x.c y.c = o) (hx : nameOK x.name = true) (hy : nameOK y.name = true) {H : Hp} {w : World} (hs : Sat H w) : Calls Tryz.prog 122 #[.agg (enc x).toArray, .agg (enc y).toArray] w (Ret w (intV o)) := h ▸ c_Order02 x y hx hy hs
set_option maxHeartbeats 4000000 in
theorem c_one06 (z : ZoneV) {H : Hp} {w : World} (hs : Sat H w) (hz : Enc.good H z) : Calls Tryz.prog 66 #[.agg (enc z).toArray] w (Tells w (OneZ z.c)) := by
  have hg := hz.2
  have hlen := hg.len
  have hlim := hg.lim
  refine T.enter (vs := [.agg (enc z).toArray]) (H := H) Tryz.func66 rfl rfl rfl hs ?_
  cases hv : nameOK z.apex with
  | false =>
    repeat (any_goals (first | refine T.seq ?_ | refine T.region ?_ | refine TL.nil ?_ | refine N.next ?_ | refine N.ret_then ?_ | refine T.ret ?_ | (apply T.cond_true; rfl) | (apply TL.skip; rfl; rfl; rfl) | (apply TL.x; rfl; rfl; (apply X.box (d := 1); rfl; rfl; rfl); intro b1 _) | (apply TL.callE (f := 118) [strV z.apex] Tryz.call118; (iterate 4 rfl); (exact fun _ hs => c_V01 z.apex hv hs.sat hz.1)) | (apply TL.val; rfl; rfl; (first | exact vpure | exact vread))))
    all_goals (try contradiction)
    all_goals exact N.tellF rfl (by (exact rvx))
  | true =>
  have ha60 := name_len60 hv
  cases hw : wildN z.apex with
  | true =>
    repeat (any_goals (first | refine T.seq ?_ | refine T.region ?_ | refine TL.nil ?_ | refine N.next ?_ | refine N.ret_then ?_ | refine T.ret ?_ | (apply T.cond_true; rfl) | (apply TL.skip; rfl; rfl; rfl) | (apply TL.x; rfl; rfl; (apply X.box (d := 1); rfl; rfl; rfl); intro b1 _) | (apply TL.callE (f := 118) [strV z.apex] Tryz.call118; (iterate 4 rfl); (exact fun _ hs => c_V01 z.apex hv hs.sat hz.1)) | (apply TL.callE (f := 119) [strV z.apex] Tryz.call119; (iterate 4 rfl); (exact fun _ hs => c_W01 z.apex hw hs.sat (by omega))) | (apply TL.val; rfl; rfl; (first | exact vpure | exact vread))))
    all_goals (try contradiction)
    all_goals exact N.tellF rfl (by (exact rvx))
  | false =>
  by_cases hf : z.sets.len ≤ 20000
  rotate_left
  · repeat (any_goals (first | refine T.seq ?_ | refine T.region ?_ | refine TL.nil ?_ | refine N.next ?_ | refine N.ret_then ?_ | refine T.ret ?_ | refine T.skip ?_ | refine T.block ?_ | (apply T.test; rfl; (exact isx); intro _; rotate_left; intro _; rotate_right) | (apply TL.x; rfl; rfl; (apply X.box (d := 1); rfl; rfl; rfl); intro b1 _) | (apply TL.callE (f := 118) [strV z.apex] Tryz.call118; (iterate 4 rfl); (exact fun _ hs => c_V01 z.apex hv hs.sat hz.1)) | (apply TL.callE (f := 119) [strV z.apex] Tryz.call119; (iterate 4 rfl); (exact fun _ hs => c_W01 z.apex hw hs.sat (by omega))) | (refine T.loop (G := Unit) (fun _ => []) (fun _ => H) (fun _ => []) (fun _ => True) (fun _ => 0) () trivial trivial rfl (List.nil_sublist _) ?_; exfalso; omega) | (apply TL.val; rfl; rfl; (first | exact vpure | exact vread))))
    all_goals (try contradiction)
    all_goals (try (exfalso; omega))
    all_goals exact N.tellF rfl (by (exact rvx))
  repeat (any_goals (first | refine T.seq ?_ | refine T.region ?_ | refine TL.nil ?_ | refine N.next ?_ | refine N.ret_then ?_ | refine T.ret ?_ | refine T.skip ?_ | refine T.block ?_ | (apply T.test; rfl; (exact isx); intro _; rotate_left; intro _; rotate_right) | (apply TL.x; rfl; rfl; (apply X.box (d := 1); rfl; rfl; rfl); intro b1 _) | (apply TL.callE (f := 118) [strV z.apex] Tryz.call118; (iterate 4 rfl); (exact fun _ hs => c_V01 z.apex hv hs.sat hz.1)) | (apply TL.callE (f := 119) [strV z.apex] Tryz.call119; (iterate 4 rfl); (exact fun _ hs => c_W01 z.apex hw hs.sat (by omega))) | (apply TL.val; rfl; rfl; (first | exact vpure | exact vread))))
  all_goals (try contradiction)
  all_goals (try (exfalso; omega))
  refine T.loop (G := Nat) (fun k => [(1, .pointer (some ⟨b1, 0, none⟩)), (3, intV k)]) (fun _ => H) (fun _ => [.blk b1 32 (enc z)]) (fun k => k ≤ z.sets.len ∧ OneTo z k) (fun k => z.sets.len - k) 0 ⟨Nat.zero_le _, fun j _ h => by omega⟩ (by (repeat (first | exact True.intro | refine ⟨rfl, ?_⟩ | refine Sub.int rfl (by omega) ?_))) rfl (by (repeat (first | exact List.Sublist.refl _ | exact List.nil_sublist _ | apply List.Sublist.cons_cons | apply List.Sublist.cons))) ?_
  rintro k ⟨hk, hrel⟩
  by_cases hlt : k < z.sets.len
  · have hkl : k < z.sets.els.length := by omega
    have hsg := hg.els _ (List.getElem_mem hkl)
    have hrow := hg.part (k := k) (j := 0) (m := 4) hlt (vs := enc (z.sets.els[k]'hkl).set) rfl
    obtain ⟨x, hx⟩ : ∃ x, z.sets.els[k]'hkl = x := ⟨_, rfl⟩
    rw [hx] at hrow hsg
    cases hsv : setOK x.set.c with
    | false =>
      repeat (any_goals (first | refine T.seq ?_ | refine T.region ?_ | (apply T.regionD wide; rfl) | refine TL.nil ?_ | refine N.next ?_ | refine N.exit_same ?_ | refine N.exit_then ?_ | refine N.ret_then ?_ | refine N.ret_block ?_ | refine T.ret ?_ | refine T.skip ?_ | refine T.exit ?_ | refine T.block ?_ | (apply T.cond_true; rfl) | (apply T.test; rfl; (exact isx); intro _; rotate_left; intro _; rotate_right) | (apply GT.skip; rfl; rfl; rfl; decide +kernel) | (apply TL.val; rfl; rfl; (apply V.elem (j := k); (iterate 6 rfl); omega; exact hg.at_ (by omega))) | (apply TL.val; rfl; rfl; (apply V.load_H_row; rfl; rfl; rfl; exact hrow; rfl)) | (apply TL.x; rfl; rfl; (apply X.alloc (d := 4); rfl; rfl; rfl); intro b4 _) | (apply TL.x; rfl; rfl; (apply X.storeTo 0 (enc x.set); (iterate 10 rfl)); intro _ _) | (apply GT.callE (f := 120) [.agg (enc x.set).toArray] Tryz.call120; (iterate 6 rfl); (exact fun _ hs => c_V02 x.set hsv hs.sat hsg.1); decide +kernel) | (apply TL.val; rfl; rfl; (first | exact vpure | exact vread)) | (apply GT.pure; (iterate 4 rfl); (first | exact vpure); decide +kernel) | (apply GT.read; (iterate 4 rfl); (first | exact vpure | exact vread); decide +kernel) | (apply GT.done; decide +kernel; apply N.ofQ)))
      all_goals (try contradiction)
      all_goals (try (exfalso; omega))
      all_goals exact N.tellF rfl (by (exact rvx))
    | true =>
    have hxn : nameOK x.set.name = true := setOK_name hsv
    have hx60 := name_len60 hxn
    cases hiv : inN x.set.name z.apex with
    | false =>
      repeat (any_goals (first | refine T.seq ?_ | refine T.region ?_ | (apply T.regionD wide; rfl) | refine TL.nil ?_ | refine N.next ?_ | refine N.exit_same ?_ | refine N.exit_then ?_ | refine N.ret_then ?_ | refine N.ret_block ?_ | refine T.ret ?_ | refine T.skip ?_ | refine T.exit ?_ | refine T.block ?_ | (apply T.cond_true; rfl) | (apply T.test; rfl; (exact isx); intro _; rotate_left; intro _; rotate_right) | (apply GT.skip; rfl; rfl; rfl; decide +kernel) | (apply TL.val; rfl; rfl; (apply V.elem (j := k); (iterate 6 rfl); omega; exact hg.at_ (by omega))) | (apply TL.val; rfl; rfl; (apply V.load_H_row; rfl; rfl; rfl; exact hrow; rfl)) | (apply TL.x; rfl; rfl; (apply X.alloc (d := 4); rfl; rfl; rfl); intro b4 _) | (apply TL.x; rfl; rfl; (apply X.storeTo 0 (enc x.set); (iterate 10 rfl)); intro _ _) | (apply GT.callE (f := 120) [.agg (enc x.set).toArray] Tryz.call120; (iterate 6 rfl); (exact fun _ hs => c_V02 x.set hsv hs.sat hsg.1); decide +kernel) | (apply GT.callE (f := 121) [strV x.set.name, strV z.apex] Tryz.call121; (iterate 6 rfl); (exact fun _ hs => c_In01 x.set.name z.apex hiv hs.sat (by omega) (by omega)); decide +kernel) | (apply TL.val; rfl; rfl; (first | exact vpure | exact vread)) | (apply GT.pure; (iterate 4 rfl); (first | exact vpure); decide +kernel) | (apply GT.read; (iterate 4 rfl); (first | exact vpure | exact vread); decide +kernel) | (apply GT.done; decide +kernel; apply N.ofQ)))
      all_goals (try contradiction)
      all_goals (try (exfalso; omega))
      all_goals exact N.tellF rfl (by (exact rvx))
    | true =>
    cases k with
    | zero =>
      repeat (any_goals (first | refine T.seq ?_ | refine T.region ?_ | (apply T.regionD wide; rfl) | refine TL.nil ?_ | refine N.next ?_ | refine N.inBlock ?_ | refine N.exit_same ?_ | refine N.exit_then ?_ | refine T.ret ?_ | refine T.skip ?_ | refine T.exit ?_ | refine T.block ?_ | (apply T.cond_false; rfl) | (apply T.test; rfl; (exact isx); intro _; rotate_left; intro _; rotate_right) | (apply GT.skip; rfl; rfl; rfl; decide +kernel) | (apply TL.val; rfl; rfl; (apply V.elem (j := 0); (iterate 6 rfl); omega; exact hg.at_ (by omega))) | (apply TL.val; rfl; rfl; (apply V.load_H_row; rfl; rfl; rfl; exact hrow; rfl)) | (apply TL.x; rfl; rfl; (apply X.alloc (d := 4); rfl; rfl; rfl); intro b4 _) | (apply TL.x; rfl; rfl; (apply X.storeTo 0 (enc x.set); (iterate 10 rfl)); intro _ _) | (apply GT.callE (f := 120) [.agg (enc x.set).toArray] Tryz.call120; (iterate 6 rfl); (exact fun _ hs => c_V02 x.set hsv hs.sat hsg.1); decide +kernel) | (apply GT.callE (f := 121) [strV x.set.name, strV z.apex] Tryz.call121; (iterate 6 rfl); (exact fun _ hs => c_In01 x.set.name z.apex hiv hs.sat (by omega) (by omega)); decide +kernel) | (apply TL.val; rfl; rfl; (first | exact vpure | exact vread)) | (apply GT.pure; (iterate 4 rfl); (first | exact vpure); decide +kernel) | (apply GT.read; (iterate 4 rfl); (first | exact vpure | exact vread); decide +kernel) | (apply GT.done; decide +kernel; apply N.ofQ)))
      all_goals (try contradiction)
      all_goals (try (exfalso; omega))
      refine N.round 1 ⟨by omega, fun j hj hjk => ?_⟩ (by show z.sets.len - 1 < z.sets.len - 0; omega) (by (repeat (first | exact True.intro | refine ⟨rfl, ?_⟩ | refine Sub.int rfl (by omega) ?_))) rfl (by (repeat (first | exact List.Sublist.refl _ | exact List.nil_sublist _ | apply List.Sublist.cons_cons | apply List.Sublist.cons)))
      have : j = 0 := by omega
      subst this
      simp only [hx]
      exact ⟨hsv, hiv, fun h0 => absurd h0 (Nat.lt_irrefl 0)⟩
    | succ k =>
      have hkl0 : k < z.sets.els.length := by omega
      have hrow0 := hg.part (k := k) (j := 0) (m := 4) (by omega) (vs := enc (z.sets.els[k]'hkl0).set) rfl
      have hprev := hrel k hkl0 (by omega)
      obtain ⟨y, hy⟩ : ∃ y, z.sets.els[k]'hkl0 = y := ⟨_, rfl⟩
      rw [hy] at hrow0
      simp only [hy] at hprev
      have hyn : nameOK y.set.name = true := setOK_name hprev.1
      obtain ⟨o, ho⟩ : ∃ o, ordSet y.set.c x.set.c = o := ⟨_, rfl⟩
      repeat (any_goals (first | refine T.seq ?_ | refine T.region ?_ | (apply T.regionD wide; rfl) | refine TL.nil ?_ | refine N.next ?_ | refine N.inBlock ?_ | refine N.exit_same ?_ | refine N.exit_then ?_ | refine N.ret_then ?_ | refine N.ret_block ?_ | refine T.ret ?_ | refine T.skip ?_ | refine T.exit ?_ | refine T.block ?_ | (apply T.cond_false; rfl) | (apply T.test; rfl; (exact isx); intro _; rotate_left; intro _; rotate_right) | (apply GT.skip; rfl; rfl; rfl; decide +kernel) | (apply TL.val; rfl; rfl; (apply V.elem (j := k + 1); (iterate 6 rfl); omega; exact hg.at_ (by omega))) | (apply GT.pure; (iterate 4 rfl); (apply V.elem (j := k); (iterate 5 rfl); omega; omega; exact hg.at_ (by omega)); decide +kernel) | (apply TL.val; rfl; rfl; (apply V.load_H_row; rfl; rfl; rfl; exact hrow; rfl)) | (apply GT.read; (iterate 4 rfl); (apply V.load_H_row; rfl; rfl; rfl; exact hrow0; rfl); decide +kernel) | (apply TL.x; rfl; rfl; (apply X.alloc (d := 4); rfl; rfl; rfl); intro b4 _) | (apply TL.x; rfl; rfl; (apply X.storeTo 0 (enc x.set); (iterate 10 rfl)); intro _ _) | (apply GT.callE (f := 120) [.agg (enc x.set).toArray] Tryz.call120; (iterate 6 rfl); (exact fun _ hs => c_V02 x.set hsv hs.sat hsg.1); decide +kernel) | (apply GT.callE (f := 121) [strV x.set.name, strV z.apex] Tryz.call121; (iterate 6 rfl); (exact fun _ hs => c_In01 x.set.name z.apex hiv hs.sat (by omega) (by omega)); decide +kernel) | (apply GT.callE (f := 122) [.agg (enc y.set).toArray, .agg (enc x.set).toArray] Tryz.call122; (iterate 6 rfl); (exact fun _ hs => c_O02 y.set x.set ho hyn hxn hs.sat); decide +kernel) | (apply TL.val; rfl; rfl; (first | exact vpure | exact vread)) | (apply GT.pure; (iterate 4 rfl); (first | exact vpure); decide +kernel) | (apply GT.read; (iterate 4 rfl); (first | exact vpure | exact vread); decide +kernel) | (apply GT.done; decide +kernel; apply N.ofQ) | (apply GT.guard; (iterate 4 rfl); (exact isx); intro _; rotate_left; intro _; rotate_right)))
      all_goals (try contradiction)
      all_goals (try (exfalso; omega))
      · exact N.tellF rfl (by (exact rvx))
      · have hlt2 : ¬ 0 ≤ o := by assumption
        refine N.round (k + 2) ⟨by omega, fun j hj hjk => ?_⟩ (by show z.sets.len - (k + 2) < z.sets.len - (k + 1); omega) (by (repeat (first | exact True.intro | refine ⟨rfl, ?_⟩ | refine Sub.int rfl (by omega) ?_))) rfl (by (repeat (first | exact List.Sublist.refl _ | exact List.nil_sublist _ | apply List.Sublist.cons_cons | apply List.Sublist.cons)))
        by_cases e : j = k + 1
        · subst e
          simp only [hx, Nat.add_sub_cancel, hy]
          exact ⟨hsv, hiv, fun _ => by rw [ho]; omega⟩
        · exact hrel j hj (by omega)
  · have hke : k = z.sets.len := by omega
    subst hke
    repeat (any_goals (first | refine T.seq ?_ | refine T.region ?_ | (apply T.regionD wide; rfl) | refine TL.nil ?_ | refine N.next ?_ | refine N.exit_same ?_ | refine N.exit_then ?_ | refine T.ret ?_ | refine T.skip ?_ | refine T.exit ?_ | refine T.block ?_ | (apply T.test; rfl; (exact isx); intro _; rotate_left; intro _; rotate_right) | (apply TL.val; rfl; rfl; (first | exact vpure | exact vread)) | (apply GT.read; (iterate 4 rfl); (first | exact vpure | exact vread); decide +kernel) | (apply TL.x; rfl; rfl; (first | exact xgrow | exact xput); intro _ _) | (apply GT.fork1; decide +kernel)))
    all_goals (try (exfalso; omega))
    refine N.tellT rfl (by (exact rvx)) ⟨hv, by show starN z.apex = false; rw [← wildN_star]; exact hw, by rw [setsC_len]; omega, fun i hi => ?_⟩
    have hi' : i < z.sets.els.length := by rw [← setsC_len]; exact hi
    have := hrel i hi' (by omega)
    rw [setsC_at hi hi']
    refine ⟨this.1, this.2.1, fun h0 => ?_⟩
    rw [setsC_at (by omega) (by omega)]
    exact this.2.2 h0
end Go.Proofs.YthabgdbhgcgemaaGreatDoor
