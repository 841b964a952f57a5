import Derived.Test.YtepljgpikfeklaaGreatDoorQNA
import Derived.Test.YtepljgpikfeklaaGreatDoorQWA
import Derived.Test.YtepljgpikfeklaaGreatDoorQEngC
namespace Go.Proofs.YtepljgpikfeklaaGreatDoor
set_option linter.unusedVariables false
set_option linter.unusedSimpArgs false
open Go Go.RowKit
open Enc (enc)
set_option maxRecDepth 20000
theorem eq_key (a b : Bytes × Int × Bytes) (w : World) : (Op.equalIn 10000 111 (keyV a) (keyV b)).run Tryz.prog w = .ok (decide (a = b)) w := by
  have hS : Tryz.prog.underlying 111 = some (.struct (Tryz.prog.fieldsOf 111)) := by kernel_rfl
  unfold keyV
  rw [show (10000 : Nat) = 9999 + 1 from rfl, run_equalIn_agg w 9999 111 _ _ hS Tryz.stoodInHeld111]
  simp only [Program.fieldsOf, Tryz.underlying111]
  have e : decide (a = b) = (decide (a.1 = b.1) && (decide (a.2.1 = b.2.1) && (decide (a.2.2 = b.2.2) && true))) := by
    rw [Bool.eq_iff_iff]; obtain ⟨a1, a2, a3⟩ := a; obtain ⟨b1, b2, b3⟩ := b; simp
  rw [e]
  refine eqF_cons (by decide) rfl rfl rfl rfl (eqS Tryz.underlying9) ?_
  refine eqF_cons (by decide) rfl rfl rfl rfl (eqI Tryz.underlying3) ?_
  refine eqF_cons (by decide) rfl rfl rfl rfl (eqS Tryz.underlying9) ?_
  exact eqF_nil
theorem c_cloneEntry (e : Entry) (H : Hp) (w : World) (hs : Sat H w) (hg : Enc.good H e) (h1 : e.signed.set.data.len ≤ 1000) (h2 : e.signed.sigs.len ≤ 1000) : Calls Tryz.prog 61 #[.agg (enc e).toArray] w (RetF w H (fun p : Hp × Entry => p.2.c = e.c ∧ Enc.good p.1 p.2) (fun p => .agg (enc p.2).toArray) (fun p => p.1)) := by
  refine T.enter (vs := [.agg (enc e).toArray]) (H := H) Tryz.func61 rfl rfl rfl hs ?_
  repeat (any_goals (first | refine T.seq ?_ | refine T.region ?_ | refine TL.nil ?_ | refine N.next ?_ | refine T.ret ?_ | (apply TL.x; rfl; rfl; (apply X.callFE (f := 108) [e.signed.set.data.v] Tryz.call108; rfl; rfl; rfl; exact (fun _ hs => c_CloneDatum e.signed.set.data _ _ hs.sat hg.1.1.2.2.2 h1)); intro p1 hp1; have hg2 := Enc.mono hp1.2 hg) | (apply TL.x; rfl; rfl; (apply X.callFE (f := 109) [e.signed.sigs.v] Tryz.call109; rfl; rfl; rfl; exact (fun _ hs => c_CloneSig e.signed.sigs _ _ hs.sat hg2.1.2 h2)); intro p2 hp2) | (apply TL.x; rfl; rfl; (apply X.storeTo 1 (enc (⟨⟨⟨e.signed.set.name, e.signed.set.typ, e.signed.set.life, p1.2⟩, e.signed.sigs⟩, e.zone, e.til⟩ : Entry)); (iterate 10 rfl)); intro _ _) | (apply TL.x; rfl; rfl; (apply X.storeTo 1 (enc (⟨⟨⟨e.signed.set.name, e.signed.set.typ, e.signed.set.life, p1.2⟩, p2.2⟩, e.zone, e.til⟩ : Entry)); (iterate 10 rfl)); intro _ _) | (apply TL.x; rfl; rfl; (apply X.storeTo 0 (enc (⟨⟨⟨e.signed.set.name, e.signed.set.typ, e.signed.set.life, p1.2⟩, p2.2⟩, e.zone, e.til⟩ : Entry)); (iterate 10 rfl)); intro _ _) | (apply TL.val; rfl; rfl; (first | exact vpure | exact vread)) | (apply TL.x; rfl; rfl; (first | exact xgrow | exact xput); intro _ _)))
  apply N.ret1; rfl; (exact rvx)
  intro w1 hst
  obtain ⟨⟨a1, a2⟩, a3⟩ := hp1
  obtain ⟨⟨b1, b2⟩, b3⟩ := hp2
  refine ⟨(p2.1, ⟨⟨⟨e.signed.set.name, e.signed.set.typ, e.signed.set.life, p1.2⟩, p2.2⟩, e.zone, e.til⟩), ⟨?_, ?_⟩, rfl, hst.fresh⟩
  · unfold Entry.c Signed.c RSet.c
    simp only [a1, b1]
  · exact ⟨⟨⟨hg.1.1.1, hg.1.1.2.1, hg.1.1.2.2.1, a2.mono b3⟩, b2⟩, hg.2.1, hg.2.2⟩
def indexC {α : Type} (p : α → Bool) (l : List α) : Int := match l.findIdx? p with
  | some k => (k : Int)
  | none => -1
theorem indexC_at {α : Type} {p : α → Bool} {l : List α} {k : Nat} (hk : k < l.length) (h : ∀ j (hj : j < l.length), j < k → p l[j] = false) (hp : p l[k] = true) : indexC p l = k := by
  have : l.findIdx? p = some k := by
    rw [List.findIdx?_eq_some_iff_getElem]
    exact ⟨hk, hp, fun j hj => by simpa using h j (by omega) hj⟩
  unfold indexC
  rw [this]
theorem indexC_no {α : Type} {p : α → Bool} {l : List α} (h : ∀ j (hj : j < l.length), p l[j] = false) : indexC p l = -1 := by
  have : l.findIdx? p = none := by
    rw [List.findIdx?_eq_none_iff]
    intro x hx
    obtain ⟨j, hj, rfl⟩ := List.mem_iff_getElem.1 hx
    exact h j hj
  unfold indexC
  rw [this]
theorem indexC_cases {α : Type} (p : α → Bool) (l : List α) : (indexC p l = -1 ∧ ∀ x ∈ l, p x = false) ∨ ∃ k, ∃ h : k < l.length, indexC p l = k ∧ p l[k] = true ∧ ∀ j (hj : j < l.length), j < k → p l[j] = false := by
  unfold indexC
  cases h : l.findIdx? p with
  | none => exact .inl ⟨rfl, List.findIdx?_eq_none_iff.1 h⟩
  | some k =>
    obtain ⟨hk, hp, hj⟩ := List.findIdx?_eq_some_iff_getElem.1 h
    exact .inr ⟨k, hk, rfl, hp, fun j hj' hjk => by simpa using hj j hjk⟩
def Says (H : Hp) (F : FuncId) (cap : Array Value) (p : Entry → Bool) (l : List Entry) : Prop := ∀ x ∈ l, ∀ w, Sat H w → Calls Tryz.prog F (#[] ++ [Value.agg (enc x).toArray].toArray ++ cap) w (Ret w (.bool (p x)))
theorem c_IndexEntry (s : Slc Entry) (p : Entry → Bool) {F : FuncId} {cap : Array Value} (hcall : ∀ (args : Array Value) (w : World), (callFunc F args).run Tryz.prog w = .ok (.enter F args) w) (H : Hp) (w : World) (hs : Sat H w) (hg : s.Good H) (hF : Says H F cap p s.els) : Calls Tryz.prog 58 #[s.v, .func (.func F) #[] cap] w (Ret w (intV (indexC p s.els))) := by
  have hlen := hg.len
  have hlim := hg.lim
  refine T.enter (vs := [s.v, .func (.func F) #[] cap]) (H := H) Tryz.func58 rfl rfl rfl hs ?_
  repeat (any_goals (first | refine T.seq ?_ | refine T.region ?_ | refine TL.nil ?_ | refine N.next ?_ | refine T.block ?_ | (apply TL.val; rfl; rfl; (first | exact vpure | exact vread))))
  refine T.loop (G := Nat) (fun k => [(0, s.v), (1, .func (.func F) #[] cap), (7, intV s.len), (8, intV k)]) (fun _ => H) (fun _ => []) (fun k => k ≤ s.len ∧ ∀ j (hj : j < s.els.length), j < k → p s.els[j] = false) (fun k => s.len - k) 0 ⟨Nat.zero_le _, fun j _ h => by omega⟩ (by (repeat (first | exact True.intro | refine ⟨rfl, ?_⟩ | refine Sub.int rfl (by omega) ?_))) rfl (by (first | exact List.Sublist.refl _ | exact List.nil_sublist _ | exact List.Sublist.cons _ (List.Sublist.refl _) | exact List.Sublist.cons _ (List.Sublist.cons _ (List.Sublist.refl _)))) ?_
  rintro k ⟨hk, hrel⟩
  by_cases hlt : k < s.len
  · have hkl : k < s.els.length := by omega
    repeat (any_goals (first | refine T.seq ?_ | refine T.region ?_ | refine TL.nil ?_ | refine N.next ?_ | refine N.inBlock ?_ | refine N.exit_same ?_ | refine N.exit_then ?_ | refine N.ret_then ?_ | refine N.ret_block ?_ | refine T.ret ?_ | refine T.skip ?_ | refine T.exit ?_ | refine T.block ?_ | (apply T.test; rfl; (exact isx); intro _; rotate_left; intro _; rotate_right) | (apply TL.call; (iterate 4 rfl); exact hcall; exact fun _ hs => hF s.els[k] (List.getElem_mem hkl) _ hs.sat) | (apply TL.val; rfl; rfl; (first | exact vpure | exact vread))))
    all_goals (try (exfalso; omega))
    · refine N.ret_int rfl (by (exact rvx)) ?_
      exact (indexC_at hkl hrel (by assumption)).symm
    · (refine N.round (k + 1) ?_ ?_ ?_ ?_ ?_; rotate_left 2; (repeat (first | exact True.intro | refine ⟨rfl, ?_⟩ | refine Sub.int rfl (by omega) ?_)); rfl; (first | exact List.Sublist.refl _ | exact List.nil_sublist _ | exact List.Sublist.cons _ (List.Sublist.refl _) | exact List.Sublist.cons _ (List.Sublist.cons _ (List.Sublist.refl _))))
      · refine ⟨by omega, fun j hj hjk => ?_⟩
        by_cases e : j = k
        · subst e; assumption
        · exact hrel j hj (by omega)
      · omega
  · repeat (any_goals (first | refine T.seq ?_ | refine T.region ?_ | refine TL.nil ?_ | refine N.next ?_ | refine N.exit_same ?_ | refine N.exit_then ?_ | refine T.ret ?_ | refine T.skip ?_ | refine T.exit ?_ | refine T.block ?_ | (apply T.test; rfl; (exact isx); intro _; rotate_left; intro _; rotate_right) | (apply TL.val; rfl; rfl; (first | exact vpure | exact vread))))
    all_goals (try (exfalso; omega))
    refine N.ret_int rfl (by (exact rvx)) ?_
    exact (indexC_no fun j hj => hrel j hj (by omega)).symm
theorem c_fresh1 (e : Entry) (now : Int) (b : Nat) (H : Hp) (w : World) (hs : Sat H w) (hb : H.cells b 0 [intV now]) : Calls Tryz.prog 107 #[.agg (enc e).toArray, .pointer (some ⟨b, 0, none⟩)] w (Ret w (.bool (decide (e.til ≤ now)))) := by
  refine T.enter (vs := [.agg (enc e).toArray, .pointer (some ⟨b, 0, none⟩)]) (H := H) Tryz.func107 rfl rfl rfl hs ?_
  repeat (any_goals (first | refine T.seq ?_ | refine T.region ?_ | refine TL.nil ?_ | refine N.next ?_ | refine T.ret ?_ | (apply TL.val; rfl; rfl; (apply V.load_H; rfl; rfl; rfl; exact hb 0 _ rfl)) | (apply TL.val; rfl; rfl; (first | exact vpure | exact vread)) | (apply TL.x; rfl; rfl; (first | exact xgrow | exact xput); intro _ _)))
  all_goals (try (first | (apply N.ret_bool; rfl; (exact rvx)) | (apply N.ret_int; rfl; (exact rvx)) | (apply N.ret_val; rfl; (exact rvx))))
  all_goals rfl
theorem c_learn1 (x e : Entry) (b : Nat) (H : Hp) (w : World) (hs : Sat H w) (hx : Enc.good H x) (he : Enc.good H e) (hb : H.cells b 0 (enc e)) : Calls Tryz.prog 59 #[.agg (enc x).toArray, .pointer (some ⟨b, 0, none⟩)] w (Ret w (.bool (alikeC x.c e.c))) := by
  refine T.enter (vs := [.agg (enc x).toArray, .pointer (some ⟨b, 0, none⟩)]) (H := H) Tryz.func59 rfl rfl rfl hs ?_
  repeat (any_goals (first | refine T.seq ?_ | refine T.region ?_ | (apply T.regionD wide; rfl) | refine TL.nil ?_ | refine N.next ?_ | refine T.ret ?_ | (apply GT.read; (iterate 4 rfl); (apply V.load_H_row; rfl; rfl; rfl; exact hb; rfl); decide +kernel) | (apply GT.callE (f := 49) [.agg (enc x).toArray] Tryz.call49; (iterate 6 rfl); (exact fun _ hs => c_keyOf x _ _ hs.sat hx); decide +kernel) | (apply GT.callE (f := 49) [.agg (enc e).toArray] Tryz.call49; (iterate 6 rfl); (exact fun _ hs => c_keyOf e _ _ hs.sat he); decide +kernel) | (apply GT.pure; (iterate 4 rfl); (apply V.aeql; rfl; rfl; exact Tryz.eqGuardType111; exact fun w => eq_key (keyC x.c) (keyC e.c) w); decide +kernel) | (apply TL.val; rfl; rfl; (first | exact vpure | exact vread)) | (apply GT.pure; (iterate 4 rfl); (first | exact vpure); decide +kernel) | (apply GT.read; (iterate 4 rfl); (first | exact vpure | exact vread); decide +kernel) | (apply GT.done; decide +kernel; apply N.ofQ) | (apply TL.x; rfl; rfl; (first | exact xgrow | exact xput); intro _ _)))
  all_goals (try (first | (apply N.ret_bool; rfl; (exact rvx)) | (apply N.ret_int; rfl; (exact rvx)) | (apply N.ret_val; rfl; (exact rvx))))
  all_goals rfl
end Go.Proofs.YtepljgpikfeklaaGreatDoor
namespace Go.Proofs.YtepljgpikfeklaaGreatDoor
set_option linter.unusedVariables false
set_option linter.unusedSimpArgs false
open Go Go.RowKit
open Enc (enc)
set_option maxRecDepth 20000
structure Cache where
  list : Slc Entry
instance : Enc Cache where
  size := 1
  enc c := [.slice c.list.A c.list.len c.list.cap]
  good H c := c.list.Good H
  len _ := rfl
  mono hle h := h.mono hle
  one _ := rfl
  pos := by decide
def Cache.c (c : Cache) : List EntryC := c.list.els.map Entry.c
def zeroEntry : Entry := ⟨⟨⟨[], 0, 0, Slc.nil _⟩, Slc.nil _⟩, [], 0⟩
theorem zeroEntry_good (H : Hp) : Enc.good H zeroEntry := ⟨⟨⟨by show LenOk []; decide, by show I64 0; decide, by show I64 0; decide, Slc.nil_good⟩, Slc.nil_good⟩, by show LenOk []; decide, by show I64 0; decide⟩
theorem Sat.of_le {H H' : Hp} {w : World} (h : Sat H' w) (hle : H.le H') : Sat H w := fun k o ho => h k o (hle k o ho)
theorem c_IndexRow {els : List Entry} {p : Entry → Bool} {F : FuncId} {cap : Array Value} (hcall : ∀ (args : Array Value) (w : World), (callFunc F args).run Tryz.prog w = .ok (.enter F args) w) {w0 w : World} {H0 H : Hp} {L : List Loc} {v : Value} {m : Nat} {r : Int} (hs : St w0 H0 H (.row v 82 7 m (encs els) :: L) w) (hl : els.length = m) (hg : ∀ x ∈ els, Enc.good H x) (hF : Says H F cap p els) (hr : indexC p els = r) : Calls Tryz.prog 58 #[v, .func (.func F) #[] cap] w (Ret w (intV r)) := by
  obtain ⟨H', s, h1, h2, h3, h4, h5⟩ := hs.freezeRow rfl hl hg
  have := c_IndexEntry s p (cap := cap) hcall H' w h5.sat h3 (fun x hx w hs => hF x (h2 ▸ hx) w (hs.of_le h4))
  rw [h1, h2, hr] at this
  exact this
theorem filter_take {α : Type} {l : List α} {k : Nat} (p : α → Bool) (hk : k < l.length) : (l.take (k + 1)).filter p = (l.take k).filter p ++ if p l[k] = true then [l[k]] else [] := by
  rw [List.take_succ_eq_append_getElem hk, List.filter_append]
  congr 1
  rw [List.filter_cons]
  rfl
structure Kept (p : Entry → Bool) (els R : List Entry) (i j : Nat) : Prop where
  len : R.length = els.length
  lt : i < j
  le : j ≤ els.length
  head : R.take i = (els.take j).filter (fun x => !p x)
  tail : R.drop j = els.drop j
theorem Kept.at {p : Entry → Bool} {els R : List Entry} {i j : Nat} (h : Kept p els R i j) (hj : j < els.length) : R[j]? = some els[j] := by
  have := congrArg (fun l => l[0]?) h.tail
  simp only [List.getElem?_drop, Nat.add_zero] at this
  rw [this, List.getElem?_eq_getElem hj]
theorem Kept.skip {p : Entry → Bool} {els R : List Entry} {i j : Nat} (h : Kept p els R i j) (hj : j < els.length) (hp : p els[j] = true) : Kept p els R i (j + 1) := by
  refine ⟨h.len, Nat.lt_succ_of_lt h.lt, hj, ?_, ?_⟩
  · rw [h.head, filter_take _ hj, hp]; simp
  · rw [← List.drop_drop, ← List.drop_drop, h.tail]
theorem Kept.keep {p : Entry → Bool} {els R : List Entry} {i j : Nat} (h : Kept p els R i j) (hj : j < els.length) (hp : p els[j] = false) : Kept p els (R.set i els[j]) (i + 1) (j + 1) := by
  have hi := h.lt
  have hl := h.len
  refine ⟨by rw [List.length_set]; exact hl, by omega, hj, ?_, ?_⟩
  · rw [List.take_succ_eq_append_getElem (by rw [List.length_set]; omega), List.take_set_of_le (Nat.le_refl _), h.head, filter_take _ hj, hp, List.getElem_set_self]; simp
  · rw [List.drop_set, if_pos (by omega), ← List.drop_drop, ← List.drop_drop, h.tail]
theorem Kept.start {p : Entry → Bool} {els : List Entry} {k : Nat} (hk : k < els.length) (hp : p els[k] = true) (hb : ∀ j (hj : j < els.length), j < k → p els[j] = false) : Kept p els els k (k + 1) := by
  refine ⟨rfl, Nat.lt_succ_self _, hk, ?_, rfl⟩
  have h0 : (els.take k).filter (fun x => !p x) = els.take k := by
    rw [List.filter_eq_self]
    intro x hx
    obtain ⟨j, hj, rfl⟩ := List.mem_iff_getElem.1 hx
    rw [List.length_take] at hj
    rw [List.getElem_take, hb j (by omega) (by omega)]; rfl
  rw [filter_take _ hk, hp, h0]; simp
theorem Kept.done {p : Entry → Bool} {els R : List Entry} {i j : Nat} (h : Kept p els R i j) (hj : ¬ j < els.length) : R.take i = els.filter (fun x => !p x) ∧ (els.filter (fun x => !p x)).length = i := by
  have h1 := h.head
  rw [show els.take j = els from List.take_of_length_le (by omega)] at h1
  have h2 := h.lt
  have h3 := h.le
  have h4 := h.len
  exact ⟨h1, by rw [← h1, List.length_take]; omega⟩
set_option maxHeartbeats 2000000 in
theorem c_DeleteFunc {els : List Entry} {p : Entry → Bool} {F : FuncId} {cap : Array Value} (hcall : ∀ (args : Array Value) (w : World), (callFunc F args).run Tryz.prog w = .ok (.enter F args) w) {w0 w : World} {H0 H : Hp} {L : List Loc} {b m : Nat} (hs : St w0 H0 H (.row (.slice (some ⟨b, 0, none⟩) m m) 82 7 m (encs els) :: L) w) (hl : els.length = m) (hm : m ≤ 1000) (hg : ∀ x ∈ els, Enc.good H x) (hF : Says H F cap p els) :
    CallsIn (FW none) 0 Tryz.prog 106 #[.slice (some ⟨b, 0, none⟩) m m, .func (.func F) #[] cap] w (fun e w' => ∃ _g : Unit, True ∧ e = .returned (.slice (some ⟨b, 0, none⟩) (els.filter (fun x => !p x)).length m) ∧ St w0 H0 H (.row (.slice (some ⟨b, 0, none⟩) (els.filter (fun x => !p x)).length m) 82 7 (els.filter (fun x => !p x)).length (encs (els.filter (fun x => !p x))) :: L) w') := by
  refine T.enterIn (vs := [.slice (some ⟨b, 0, none⟩) m m, .func (.func F) #[] cap]) Tryz.func106 rfl rfl rfl hs ?_
  obtain ⟨hi, ha⟩ | ⟨k, hk, hi, hp, hb⟩ := indexC_cases p els
  · repeat (any_goals (first | refine T.seq ?_ | refine T.region ?_ | refine TL.nil ?_ | refine N.next ?_ | refine N.ret_then ?_ | refine T.ret ?_ | (apply T.cond_true; rfl) | (apply TL.callE (f := 58) [.slice (some ⟨b, 0, none⟩) m m, .func (.func F) #[] cap] Tryz.call58; (iterate 4 rfl); (exact fun _ hs => c_IndexRow hcall hs hl hg hF hi)) | (apply TL.val; rfl; rfl; (apply V.eqlT; rfl; rfl)) | (apply TL.val; rfl; rfl; (first | exact vpure | exact vread))))
    apply N.ret1; rfl; (exact rvx)
    intro w1 hst
    have hf : els.filter (fun x => !p x) = els := by
      rw [List.filter_eq_self]
      intro x hx
      rw [ha x hx]; rfl
    rw [hf, hl]
    exact ⟨(), trivial, rfl, hst⟩
  · repeat (any_goals (first | refine T.seq ?_ | refine T.region ?_ | refine TL.nil ?_ | refine N.next ?_ | refine T.skip ?_ | refine T.block ?_ | (apply T.cond_false; rfl) | (apply TL.callE (f := 58) [.slice (some ⟨b, 0, none⟩) m m, .func (.func F) #[] cap] Tryz.call58; (iterate 4 rfl); (exact fun _ hs => c_IndexRow hcall hs hl hg hF hi)) | (apply TL.val; rfl; rfl; (apply V.eqlF (i := (k : Int)) (j := -1) (by omega); rfl; rfl)) | (apply TL.val; rfl; rfl; (first | exact vpure | exact vread))))
    refine T.loop (G := Nat × Nat × List Entry) (fun g => [(0, .slice (some ⟨b, 0, none⟩) m m), (1, .func (.func F) #[] cap), (5, intV g.1), (6, intV g.2.1)]) (fun _ => H) (fun g => .row (.slice (some ⟨b, 0, none⟩) m m) 82 7 m (encs g.2.2) :: L) (fun g => Kept p els g.2.2 g.1 g.2.1) (fun g => m - g.2.1) (k, k + 1, els) (Kept.start hk hp hb) (by (repeat (first | exact True.intro | refine ⟨rfl, ?_⟩ | refine Sub.int rfl (by omega) ?_))) rfl (by (first | exact List.Sublist.refl _ | exact List.nil_sublist _ | exact List.Sublist.cons _ (List.Sublist.refl _) | exact List.Sublist.cons _ (List.Sublist.cons _ (List.Sublist.refl _)))) ?_
    rintro ⟨i, j, R⟩ hrel
    simp only at hrel ⊢
    have k1 := hrel.lt
    have k2 := hrel.le
    have k3 := hrel.len
    by_cases hlt : j < m
    · have hjl : j < els.length := by omega
      have hat := hrel.at hjl
      repeat (any_goals (first | refine T.seq ?_ | refine T.region ?_ | refine TL.nil ?_ | refine N.next ?_ | refine N.inBlock ?_ | refine N.exit_same ?_ | refine N.exit_then ?_ | refine T.skip ?_ | refine T.exit ?_ | refine T.block ?_ | (apply T.test; rfl; (exact isx); intro _; rotate_left; intro _; rotate_right) | (apply TL.val; rfl; rfl; (apply V.lenE; (iterate 5 rfl))) | (apply TL.val; rfl; rfl; (apply V.elem (j := j); (iterate 6 rfl); exact hlt; rfl)) | (apply TL.x; rfl; rfl; (apply X.storeTo 0 (enc els[j]); (iterate 10 rfl)); intro _ _) | (apply TL.val; rfl; rfl; (apply V.load_own_row; rfl; rfl; rfl; (exact lmem); exact encs_rowat hat (show 0 + j * 7 = j * 7 by omega); rfl)) | (apply TL.call; (iterate 4 rfl); exact hcall; exact fun _ hs => hF els[j] (List.getElem_mem hjl) _ hs.sat) | (apply TL.val; rfl; rfl; (apply V.elem (j := i); (iterate 6 rfl); (show i < m; omega); rfl)) | (apply TL.val; rfl; rfl; (first | exact vpure | exact vread)) | (apply TL.x; rfl; rfl; (first | exact xgrow | exact xput); intro _ _)))
      all_goals (try (exfalso; omega))
      · (
        refine TL.x rfl rfl (X.storeRowE 1 (vs := enc els[j]) (ys := encs (R.set i els[j])) rfl rfl rfl rfl rfl rfl rfl (by show 0 + i * 7 + 7 ≤ m * 7; omega) (encs_put (j := 0) (vs := enc els[j]) (y := els[j]) (x := R[i]'(by omega)) (List.getElem?_eq_getElem _) (show 0 + 7 ≤ 7 by omega) rfl (show 0 + i * 7 = i * 7 + 0 by omega))) ?_
        intro _ _
        repeat (any_goals (first | refine T.region ?_ | refine TL.nil ?_ | refine N.next ?_ | refine N.inBlock ?_ | (apply TL.val; rfl; rfl; (first | exact vpure | exact vread))))
        all_goals (try (exfalso; omega))
        refine N.round (i + 1, j + 1, R.set i els[j]) (hrel.keep hjl (by assumption)) (by show m - (j + 1) < m - j; omega) (by (repeat (first | exact True.intro | refine ⟨rfl, ?_⟩ | refine Sub.int rfl (by omega) ?_))) rfl (by (first | exact List.Sublist.refl _ | exact List.nil_sublist _ | exact List.Sublist.cons _ (List.Sublist.refl _) | exact List.Sublist.cons _ (List.Sublist.cons _ (List.Sublist.refl _)))))
      · (refine N.round (i, j + 1, R) (hrel.skip hjl (by assumption)) (by show m - (j + 1) < m - j; omega) (by (repeat (first | exact True.intro | refine ⟨rfl, ?_⟩ | refine Sub.int rfl (by omega) ?_))) rfl (by (first | exact List.Sublist.refl _ | exact List.nil_sublist _ | exact List.Sublist.cons _ (List.Sublist.refl _) | exact List.Sublist.cons _ (List.Sublist.cons _ (List.Sublist.refl _)))))
    · obtain ⟨d1, d2⟩ := hrel.done (by omega)
      repeat (any_goals (first | refine T.seq ?_ | refine T.region ?_ | refine TL.nil ?_ | refine N.next ?_ | refine N.exit_same ?_ | refine N.exit_then ?_ | refine T.ret ?_ | refine T.skip ?_ | refine T.exit ?_ | refine T.block ?_ | (apply T.test; rfl; (exact isx); intro _; rotate_left; intro _; rotate_right) | (apply TL.val; rfl; rfl; (apply V.lenE; (iterate 5 rfl))) | (apply TL.val; rfl; rfl; (apply V.sliceFrom (α := Entry) (s := ⟨some ⟨b, 0, none⟩, m, m, []⟩); (iterate 6 rfl); (show 0 ≤ (i : Int) ∧ (i : Int) ≤ (m : Nat); omega); exact Nat.le_refl _)) | (apply TL.x; rfl; rfl; (apply X.clearRow 0 i; (iterate 4 rfl); exact fun h => drop_at h (Nat.le_refl _); (show i + (m - i) = m; omega); rfl; decide; rfl); intro _ _) | (apply TL.val; rfl; rfl; (apply V.sliceTo (α := Entry) (s := ⟨some ⟨b, 0, none⟩, m, m, []⟩); (iterate 5 rfl); (show 0 ≤ (i : Int) ∧ (i : Int) ≤ (m : Nat); omega); exact Nat.le_refl _)) | (apply TL.val; rfl; rfl; (first | exact vpure | exact vread))))
      all_goals (try (exfalso; omega))
      apply N.ret1; rfl; (exact rvx)
      intro w1 hst
      rw [d2]
      have e : (encs R).take (i * 7) = encs (els.filter (fun x => !p x)) := by
        rw [← d1]; exact encs_take R i
      refine ⟨(), trivial, rfl, ?_⟩
      rw [← e]
      exact hst
end Go.Proofs.YtepljgpikfeklaaGreatDoor
namespace Go.Proofs.YtepljgpikfeklaaGreatDoor
set_option linter.unusedVariables false
set_option linter.unusedSimpArgs false
open Go Go.RowKit
open Enc (enc)
set_option maxRecDepth 20000
def CopyE (H : Hp) (els els' : List Entry) (k : Nat) : Prop := els'.length = els.length ∧ ∀ j s, els[j]? = some s → ∃ s', els'[j]? = some s' ∧ s'.c = s.c ∧ Enc.good H s' ∧ (k ≤ j → s' = s)
theorem copyE_up {H H' : Hp} {els els' : List Entry} {k : Nat} {s y : Entry} (h : CopyE H els els' k) (hle : H.le H') (hk : els[k]? = some s) (hc : y.c = s.c) (hy : Enc.good H' y) : CopyE H' els (els'.set k y) (k + 1) := by
  refine ⟨by rw [List.length_set]; exact h.1, fun j t hj => ?_⟩
  obtain ⟨s', h1, h2, h3, h4⟩ := h.2 j t hj
  by_cases e : k = j
  · subst e
    rw [hk] at hj
    cases hj
    exact ⟨y, List.getElem?_set_self (List.getElem?_eq_some_iff.1 h1).1, hc, hy, fun h' => by omega⟩
  · exact ⟨s', by rw [List.getElem?_set_ne e]; exact h1, h2, Enc.mono hle h3, fun h' => h4 (by omega)⟩
theorem copyE_c {H : Hp} {els els' : List Entry} {k : Nat} (h : CopyE H els els' k) : els'.map Entry.c = els.map Entry.c := by
  apply List.ext_getElem?
  intro j
  rw [List.getElem?_map, List.getElem?_map]
  cases hj : els[j]? with
  | none =>
    rw [List.getElem?_eq_none_iff, ← h.1, ← List.getElem?_eq_none_iff] at hj
    rw [hj]
  | some s =>
    obtain ⟨s', h1, h2, _⟩ := h.2 j s hj
    rw [h1]; exact congrArg some h2
theorem copyE_good {H : Hp} {els els' : List Entry} {k : Nat} (h : CopyE H els els' k) : ∀ x ∈ els', Enc.good H x := fun x hx => by
  obtain ⟨j, hj, rfl⟩ := List.mem_iff_getElem.1 hx
  obtain ⟨s', h1, _, h3, _⟩ := h.2 j (els[j]'(by rw [← h.1]; exact hj)) (List.getElem?_eq_getElem _)
  rw [List.getElem?_eq_getElem hj] at h1
  cases h1; exact h3
theorem fresh_c (els : List Entry) (now : Int) : (els.filter (fun x => !decide (x.til ≤ now))).map Entry.c = freshC (els.map Entry.c) now := by
  unfold freshC
  rw [List.filter_map]
  congr 1
  apply List.filter_congr
  intro x _
  show (!decide (x.til ≤ now)) = decide (now < x.til)
  rw [Bool.eq_iff_iff]
  simp
def Short (l : List Entry) : Prop := ∀ x ∈ l, x.signed.set.data.len ≤ 1000 ∧ x.signed.sigs.len ≤ 1000
theorem says_fresh {H : Hp} {b : Nat} {now : Int} (h : (⟨some ⟨b, 0, none⟩, 1, 1, [now]⟩ : Slc Int).Good H) (l : List Entry) : Says H 107 #[.pointer (some ⟨b, 0, none⟩)] (fun x => decide (x.til ≤ now)) l := fun x _ w hs => by
  have hb : H.cells b 0 [intV now] := h.all
  simpa using c_fresh1 x now b H w hs hb
set_option maxHeartbeats 4000000 in
theorem c_fresh (c : Cache) (now : Int) (H : Hp) (w : World) (hs : Sat H w) (hg : Enc.good H c) (hnow : I64 now) (hm : c.list.len ≤ 1000) (hb : Short c.list.els) : Calls Tryz.prog 57 #[.agg (enc c).toArray, intV now] w
    (RetO w H (fun g : Hp × List Entry × Nat × Nat => g.2.1.map Entry.c = freshC c.c now ∧ (∀ x ∈ g.2.1, Enc.good g.1 x) ∧ g.2.1.length ≤ g.2.2.2 ∧ g.2.2.2 = c.list.len ∧ H.le g.1) (fun g => .slice (some ⟨g.2.2.1, 0, none⟩) g.2.1.length g.2.2.2) (fun g => g.1) (fun g => [.row (.slice (some ⟨g.2.2.1, 0, none⟩) g.2.1.length g.2.2.2) 82 7 g.2.1.length (encs g.2.1)])) := by
  have hg' : c.list.Good H := hg
  have hlen := hg'.len
  have hfl : (c.list.els.filter (fun x => !decide (x.til ≤ now))).length ≤ c.list.len := by rw [← hlen]; exact List.length_filter_le _ _
  have hfc := fresh_c c.list.els now
  have hfg : ∀ x ∈ c.list.els.filter (fun x => !decide (x.til ≤ now)), Enc.good H x := fun x hx => hg'.els x ((List.mem_filter.1 hx).1)
  have hfb : Short (c.list.els.filter (fun x => !decide (x.til ≤ now))) := fun x hx => hb x ((List.mem_filter.1 hx).1)
  refine T.enter (vs := [.agg (enc c).toArray, intV now]) (H := H) Tryz.func57 rfl rfl rfl hs ?_
  repeat (any_goals (first | refine T.seq ?_ | refine T.region ?_ | refine TL.nil ?_ | refine N.next ?_ | refine T.block ?_ | (apply TL.x; rfl; rfl; (apply X.makeSlice zeroEntry c.list.len; (iterate 10 rfl); (refine Nat.le_trans (Nat.mul_le_mul_left _ hm) ?_; decide); (show c.list.len ≤ 9223372036854775807; omega)); intro b5 _) | (apply TL.x; rfl; rfl; (apply X.copyRow 0 c.list; (iterate 8 rfl); exact hg'; rfl); intro _ _; apply TL.frzBlk 1 (α := Int) (els := [now]) (m := 1) rfl rfl rfl (by decide) (by intro x hx; simp at hx; rw [hx]; exact hnow); intro H2 hn2 hle2) | (apply TL.val; rfl; rfl; ((apply V.makeFunc (vs := []) (us := [_]) <;> rfl))) | (apply TL.x; rfl; rfl; (apply X.callS0 Tryz.call106; rfl; rfl; exact fun _ hs => c_DeleteFunc Tryz.call107 hs hlen hm (fun x hx => Enc.mono hle2 (hg'.els x hx)) (says_fresh hn2 _)); intro _ _) | (apply TL.val; rfl; rfl; (first | exact vpure | exact vread)) | (apply TL.x; rfl; rfl; (first | exact xgrow | exact xput); intro _ _)))
  rename_i b2 _ b3 _ _ _ _ _ _
  obtain ⟨F, hF⟩ : ∃ F, F = c.list.els.filter (fun x => !decide (x.til ≤ now)) := ⟨_, rfl⟩
  rw [← hF] at hfl hfc hfg hfb ⊢
  refine T.loop (G := Nat × Hp × List Entry) (fun g => [(5, .slice (some ⟨b5, 0, none⟩) F.length c.list.len), (19, .slice (some ⟨b5, 0, none⟩) F.length c.list.len), (20, intV F.length), (21, intV g.1)]) (fun g => g.2.1) (fun g => [.row (.slice (some ⟨b5, 0, none⟩) F.length c.list.len) 82 7 F.length (encs g.2.2)])
    (fun g => g.1 ≤ F.length ∧ H2.le g.2.1 ∧ CopyE g.2.1 F g.2.2 g.1) (fun g => F.length - g.1) (0, H2, F) ⟨Nat.zero_le _, .refl _, rfl, fun j s hj => ⟨s, hj, rfl, Enc.mono hle2 (hfg s (List.mem_of_getElem? hj)), fun _ => rfl⟩⟩ (by (repeat (first | exact True.intro | refine ⟨rfl, ?_⟩ | refine Sub.int rfl (by omega) ?_))) rfl (by repeat (first | exact List.Sublist.refl _ | exact List.nil_sublist _ | apply List.Sublist.cons_cons | apply List.Sublist.cons)) ?_
  rintro ⟨k, H1, els1⟩ ⟨hk, hle, hrel⟩
  simp only at hk hle hrel ⊢
  have hl1 : els1.length = F.length := hrel.1
  by_cases hlt : k < F.length
  · obtain ⟨s0, hs0⟩ : ∃ s0, F[k]? = some s0 := ⟨_, List.getElem?_eq_getElem hlt⟩
    have hs1 : els1[k]? = some s0 := by
      obtain ⟨s', e1, _, _, e4⟩ := hrel.2 k s0 hs0
      rw [e1, e4 (Nat.le_refl _)]
    have hs2 : Enc.good H1 s0 := Enc.mono hle (Enc.mono hle2 (hfg s0 (List.mem_of_getElem? hs0)))
    obtain ⟨hb3, hb4⟩ := hfb s0 (List.mem_of_getElem? hs0)
    repeat (any_goals (first | refine T.seq ?_ | refine T.region ?_ | refine TL.nil ?_ | refine N.next ?_ | refine N.exit_same ?_ | refine N.exit_then ?_ | refine T.ret ?_ | refine T.skip ?_ | refine T.exit ?_ | refine T.block ?_ | (apply T.test; rfl; (exact isx); intro _; rotate_left; intro _; rotate_right) | (apply TL.val; rfl; rfl; (apply V.elem (j := k); (iterate 6 rfl); exact hlt; rfl)) | (apply TL.val; rfl; rfl; (apply V.load_own_row; rfl; rfl; rfl; (exact lmem); exact encs_rowat hs1 (show 0 + k * 7 = k * 7 by omega); rfl)) | (apply TL.x; rfl; rfl; (apply X.storeTo 0 (enc s0); (iterate 10 rfl)); intro _ _) | (apply TL.x; rfl; rfl; (apply X.callFE (f := 61) [.agg (enc s0).toArray] Tryz.call61; rfl; rfl; rfl; exact (fun _ hs => c_cloneEntry s0 _ _ hs.sat hs2 hb3 hb4)); intro p hp) | (apply TL.val; rfl; rfl; (first | exact vpure | exact vread)) | (apply TL.x; rfl; rfl; (first | exact xgrow | exact xput); intro _ _)))
    all_goals (try (exfalso; omega))
    obtain ⟨⟨e1, e2⟩, e3⟩ := hp
    refine TL.x rfl rfl (X.storeRowE 1 (vs := enc p.2) (ys := encs (els1.set k p.2)) rfl rfl rfl rfl rfl rfl rfl (by show 0 + k * 7 + 7 ≤ F.length * 7; omega) (encs_put (j := 0) (vs := enc p.2) (y := p.2) (x := s0) hs1 (show 0 + 7 ≤ 7 by omega) rfl (show 0 + k * 7 = k * 7 + 0 by omega))) ?_
    intro _ _
    repeat (any_goals (first | refine T.region ?_ | refine TL.nil ?_ | refine N.next ?_ | refine N.inBlock ?_ | (apply TL.val; rfl; rfl; (first | exact vpure | exact vread))))
    refine N.round (k + 1, p.1, els1.set k p.2) ⟨by show k + 1 ≤ _; omega, hle.trans e3, copyE_up hrel e3 hs0 e1 e2⟩ (by show F.length - (k + 1) < F.length - k; omega) (by (repeat (first | exact True.intro | refine ⟨rfl, ?_⟩ | refine Sub.int rfl (by omega) ?_))) rfl (by (first | exact List.Sublist.refl _ | exact List.nil_sublist _ | exact List.Sublist.cons _ (List.Sublist.refl _) | exact List.Sublist.cons _ (List.Sublist.cons _ (List.Sublist.refl _))))
  · repeat (any_goals (first | refine T.seq ?_ | refine T.region ?_ | refine TL.nil ?_ | refine N.next ?_ | refine N.exit_same ?_ | refine N.exit_then ?_ | refine T.ret ?_ | refine T.skip ?_ | refine T.exit ?_ | refine T.block ?_ | (apply T.test; rfl; (exact isx); intro _; rotate_left; intro _; rotate_right) | (apply TL.val; rfl; rfl; (first | exact vpure | exact vread))))
    all_goals (try (exfalso; omega))
    apply N.ret1; rfl; (exact rvx)
    intro w1 hst
    refine ⟨(H1, els1, b5, c.list.len), ⟨?_, copyE_good hrel, ?_, rfl, hle2.trans hle⟩, ?_, ?_⟩
    · show els1.map Entry.c = _
      rw [copyE_c hrel, hfc]; rfl
    · show els1.length ≤ c.list.len
      omega
    · show _ = Ending.returned (.slice (some ⟨b5, 0, none⟩) els1.length c.list.len)
      rw [hl1]
    · show St _ _ H1 [.row (.slice (some ⟨b5, 0, none⟩) els1.length c.list.len) 82 7 els1.length (encs els1)] w1
      rw [hl1]
      exact hst
end Go.Proofs.YtepljgpikfeklaaGreatDoor
namespace Go.Proofs.YtepljgpikfeklaaGreatDoor
set_option linter.unusedVariables false
set_option linter.unusedSimpArgs false
open Go Go.RowKit
open Enc (enc)
set_option maxRecDepth 20000
theorem none_alike {F : List EntryC} {x e : EntryC} (hx : keyC x ∉ F.map keyC) (ha : alikeC x e = true) : ∀ o ∈ F, alikeC o e = false := fun o ho => by
  rw [Bool.eq_false_iff]
  intro h
  exact hx (List.mem_map.2 ⟨o, ho, (alike_iff.1 h).trans (alike_iff.1 ha).symm⟩)
theorem uniq_alike : ∀ {F : List EntryC}, (F.map keyC).Nodup → ∀ {k : Nat} (hk : k < F.length) {e : EntryC}, alikeC F[k] e = true → (F.filter (fun o => !alikeC o e) = F.eraseIdx k ∧ (F.map fun o => if alikeC o e then e else o) = F.set k e)
  | [], _, k, hk, _, _ => by simp at hk
  | x :: F, hn, 0, hk, e, ha => by
    rw [List.map_cons, List.nodup_cons] at hn
    have ha' : alikeC x e = true := ha
    have hno := none_alike hn.1 ha'
    refine ⟨?_, ?_⟩
    · rw [List.filter_cons, ha']
      simp only [Bool.not_true, Bool.false_eq_true, if_false, List.eraseIdx_cons_zero]
      rw [List.filter_eq_self]
      intro o ho
      rw [hno o ho]; rfl
    · rw [List.map_cons, if_pos ha', List.set_cons_zero]
      congr 1
      rw [List.map_congr_left (g := id) fun o ho => by rw [hno o ho]; rfl, List.map_id]
  | x :: F, hn, k + 1, hk, e, ha => by
    rw [List.map_cons, List.nodup_cons] at hn
    have hk' : k < F.length := by simpa using hk
    have ha' : alikeC F[k] e = true := ha
    obtain ⟨h1, h2⟩ := uniq_alike hn.2 hk' ha'
    have hx : alikeC x e = false := by
      rw [Bool.eq_false_iff]
      intro h
      have := none_alike hn.1 h F[k] (List.getElem_mem hk')
      rw [this] at ha'; cases ha'
    refine ⟨?_, ?_⟩
    · rw [List.filter_cons, hx]
      simp only [Bool.not_false, if_true, List.eraseIdx_cons_succ, h1]
    · rw [List.map_cons, hx, List.set_cons_succ, h2]
      simp
theorem fresh_nodup {l : List EntryC} (h : cacheOK l = true) (now : Int) : ((freshC l now).map keyC).Nodup := ((cacheOK_iff _).1 (cache_sub h (fresh_sub l now))).2.2
theorem learn_over {l : List EntryC} {e : EntryC} {now : Int} (h1 : e.til ≤ now) {k : Nat} (hk : k < (freshC l now).length) (ha : alikeC (freshC l now)[k] e = true) (h : cacheOK l = true) : learnC l e now = ((freshC l now).eraseIdx k, 0) := by
  unfold learnC
  rw [if_pos h1, (uniq_alike (fresh_nodup h now) hk ha).1]
theorem learn_over0 {l : List EntryC} {e : EntryC} {now : Int} (h1 : e.til ≤ now) (ha : ∀ o ∈ freshC l now, alikeC o e = false) : learnC l e now = (freshC l now, 0) := by
  unfold learnC
  rw [if_pos h1]
  congr 1
  rw [List.filter_eq_self]
  intro o ho
  rw [ha o ho]; rfl
theorem learn_at {l : List EntryC} {e : EntryC} {now : Int} (h1 : ¬ e.til ≤ now) {k : Nat} (hk : k < (freshC l now).length) (ha : alikeC (freshC l now)[k] e = true) (h : cacheOK l = true) : learnC l e now = ((freshC l now).set k e, 0) := by
  unfold learnC
  rw [if_neg h1, if_pos (List.any_eq_true.2 ⟨_, List.getElem_mem hk, ha⟩), (uniq_alike (fresh_nodup h now) hk ha).2]
theorem no_any {l : List EntryC} {e : EntryC} {now : Int} (ha : ∀ o ∈ freshC l now, alikeC o e = false) : ¬ (freshC l now).any (fun o => alikeC o e) = true := by
  intro h
  obtain ⟨o, ho, h'⟩ := List.any_eq_true.1 h
  rw [ha o ho] at h'; cases h'
theorem learn_full {l : List EntryC} {e : EntryC} {now : Int} (h1 : ¬ e.til ≤ now) (ha : ∀ o ∈ freshC l now, alikeC o e = false) (h4 : 400 ≤ (freshC l now).length) : learnC l e now = ([], 41) := by
  unfold learnC
  rw [if_neg h1, if_neg (no_any ha), if_pos h4]
theorem learn_new {l : List EntryC} {e : EntryC} {now : Int} (h1 : ¬ e.til ≤ now) (ha : ∀ o ∈ freshC l now, alikeC o e = false) (h4 : ¬ 400 ≤ (freshC l now).length) : learnC l e now = (freshC l now ++ [e], 0) := by
  unfold learnC
  rw [if_neg h1, if_neg (no_any ha), if_neg h4]
set_option maxHeartbeats 2000000 in
theorem c_Delete {els : List Entry} {w0 w : World} {H0 H : Hp} {L : List Loc} {b m c k : Nat} (hs : St w0 H0 H (.row (.slice (some ⟨b, 0, none⟩) m c) 82 7 m (encs els) :: L) w) (hl : els.length = m) (hc : m ≤ c) (hm : c ≤ 1000) (hk : k < m) :
    CallsIn (FW none) 0 Tryz.prog 60 #[.slice (some ⟨b, 0, none⟩) m c, intV k, intV ((k : Int) + 1)] w (fun e w' => ∃ _g : Unit, True ∧ e = .returned (.slice (some ⟨b, 0, none⟩) (els.eraseIdx k).length c) ∧ St w0 H0 H (.row (.slice (some ⟨b, 0, none⟩) (els.eraseIdx k).length c) 82 7 (els.eraseIdx k).length (encs (els.eraseIdx k)) :: L) w') := by
  refine T.enterIn (vs := [.slice (some ⟨b, 0, none⟩) m c, intV k, intV ((k : Int) + 1)]) Tryz.func60 rfl rfl rfl hs ?_
  have hel : (els.eraseIdx k).length = k + (m - (k + 1)) := by rw [List.length_eraseIdx, if_pos (by omega)]; omega
  have hee : encs (els.eraseIdx k) = (encs els).take (k * 7) ++ (encs els).drop ((k + 1) * 7) := by
    have h1 : (encs els).take (k * 7) = encs (els.take k) := encs_take els k
    have h2 : (encs els).drop ((k + 1) * 7) = encs (els.drop (k + 1)) := encs_drop els (k + 1)
    rw [h1, h2, List.eraseIdx_eq_take_drop_succ, encs_append]
  repeat (any_goals (first | refine T.seq ?_ | refine T.region ?_ | (apply T.regionD wide; rfl) | refine TL.nil ?_ | refine N.next ?_ | refine T.skip ?_ | (apply T.cond_false; rfl) | (apply TL.val; rfl; rfl; (apply V.lenE; (iterate 5 rfl))) | (apply TL.val; rfl; rfl; (apply V.eqlF (i := (k : Int)) (j := (k : Int) + 1) (by omega); rfl; rfl)) | (apply TL.val; rfl; rfl; (apply V.slice3 k (k + 1) m; (iterate 8 rfl); omega; rfl; omega; omega; omega)) | (apply GT.pure; (iterate 4 rfl); (apply V.slice0 k; (iterate 6 rfl); omega); decide +kernel) | (apply GT.pure; (iterate 4 rfl); (apply V.slice1 (k + 1); (iterate 5 rfl); omega; omega); decide +kernel) | (apply TL.val; rfl; rfl; (apply V.slice2 (k + (m - (k + 1))) m; (iterate 6 rfl); omega; omega; omega; omega)) | (apply GS.eff; rfl; decide +kernel; rfl; (apply X.appendSelf 0 k (m - (k + 1)) (k + 1); (iterate 7 rfl); exact at_some; exact fun h => drop_at h hc; omega; omega; rfl; exact encs_one _); intro _ _) | (apply TL.val; rfl; rfl; (first | exact vpure | exact vread)) | (apply GT.pure; (iterate 4 rfl); (first | exact vpure); decide +kernel) | (apply GT.done; decide +kernel; apply N.ofQ) | (apply GT.adv; rfl) | (apply GT.fork1; decide +kernel)))
  refine TL.x rfl rfl (X.clearTail 0 (k + (m - (k + 1))) rfl rfl rfl rfl (fun h => drop_at (m := m) (by omega) hc) (Nat.le_refl _) (by omega) rfl (by decide) rfl) ?_
  intro _ _
  repeat (any_goals (first | refine T.seq ?_ | refine T.region ?_ | refine TL.nil ?_ | refine N.next ?_ | refine T.ret ?_ | (apply TL.val; rfl; rfl; (first | exact vpure | exact vread))))
  apply N.ret1; rfl; (exact rvx)
  intro w1 hst
  rw [hel, hee]
  exact ⟨(), trivial, rfl, hst⟩
end Go.Proofs.YtepljgpikfeklaaGreatDoor
namespace Go.Proofs.YtepljgpikfeklaaGreatDoor
set_option linter.unusedVariables false
set_option linter.unusedSimpArgs false
open Go Go.RowKit
open Enc (enc)
set_option maxRecDepth 20000
theorem says_learn {H : Hp} {b : Nat} {e : Entry} (h : (⟨some ⟨b, 0, none⟩, 1, 1, [e]⟩ : Slc Entry).Good H) (he : Enc.good H e) {l : List Entry} (hl : ∀ x ∈ l, Enc.good H x) : Says H 59 #[.pointer (some ⟨b, 0, none⟩)] (fun x => alikeC x.c e.c) l := fun x hx w hs => by
  have hb : H.cells b 0 (enc e) := h.all
  simpa using c_learn1 x e b H w hs (hl x hx) he hb
def Caches (w : World) (H : Hp) (r : List EntryC × Int) : Ending → World → Prop := RetF w H (fun g : Hp × Cache => g.2.c = r.1 ∧ Enc.good g.1 g.2) (fun g => .tuple #[.agg (enc g.2).toArray, intV r.2]) (fun g => g.1)
theorem cache_end {w0 w : World} {H0 H : Hp} {L : List Loc} {v : Value} {n : Nat} {els : List Entry} {r : List EntryC × Int} {z : Int} (hst : St w0 H0 H L w) (hsub : List.Sublist [.row v 82 7 n (encs els)] L) (hl : els.length = n) (hg : ∀ x ∈ els, Enc.good H x) (hr : r = (els.map Entry.c, z)) : Caches w0 H0 r (.returned (.tuple #[.agg #[v], intV z])) w := by
  subst hr
  obtain ⟨H', s, h1, h2, h3, h4, h5⟩ := (hst.sub hsub).freezeRow rfl hl hg
  refine ⟨(H', ⟨s⟩), ⟨?_, h3⟩, ?_, h5.fresh⟩
  · show s.els.map Entry.c = _
    rw [h2]
  · rw [← h1]; rfl
theorem map_erase {α β : Type} (f : α → β) : ∀ (l : List α) (k : Nat), (l.map f).eraseIdx k = (l.eraseIdx k).map f
  | [], _ => rfl
  | _ :: _, 0 => rfl
  | x :: l, k + 1 => by simp only [List.map_cons, List.eraseIdx_cons_succ, map_erase f l k]
theorem cache_len {c : Cache} {H : Hp} (hg : Enc.good H c) (hok : cacheOK c.c = true) : c.list.len ≤ 400 := by
  have h1 := ((cacheOK_iff _).1 hok).1
  have h2 : c.list.els.length = c.list.len := Slc.Good.len hg
  have h3 : c.c.length = c.list.els.length := List.length_map _
  omega
set_option maxHeartbeats 4000000 in
theorem c_learn (c : Cache) (e : Entry) (now : Int) (H : Hp) (w : World) (hs : Sat H w) (hg : Enc.good H c) (he : Enc.good H e) (hnow : I64 now) (hok : cacheOK c.c = true) (hb : Short c.list.els) (hbe : e.signed.set.data.len ≤ 1000 ∧ e.signed.sigs.len ≤ 1000) : Calls Tryz.prog 30 #[.agg (enc c).toArray, .agg (enc e).toArray, intV now] w (Caches w H (learnC c.c e.c now)) := by
  have hm := cache_len hg hok
  refine T.enter (vs := [.agg (enc c).toArray, .agg (enc e).toArray, intV now]) (H := H) Tryz.func30 rfl rfl rfl hs ?_
  repeat (any_goals (first | refine T.seq ?_ | refine T.region ?_ | refine TL.nil ?_ | refine N.next ?_ | refine N.inBlock ?_ | refine N.ret_then ?_ | refine N.ret_block ?_ | refine T.ret ?_ | refine T.skip ?_ | refine T.block ?_ | (apply T.cond_true; rfl) | (apply T.cond_false; rfl) | (apply T.test; rfl; (exact isx); intro _; rotate_left; intro _; rotate_right) | (apply TL.x; rfl; rfl; (apply X.callO0 (f := 57) Tryz.call57; rfl; rfl; exact fun _ hs => c_fresh c now _ _ hs.sat hg hnow (by omega) hb); intro p hp; obtain ⟨⟨hp1, hp2, hp3, hp4, hp5⟩, hp6⟩ := hp; apply TL.frzBlk 2 (α := Entry) (els := [e]) (m := 1) rfl rfl rfl (by decide) (by intro x hx; simp at hx; rw [hx]; exact Enc.mono hp5 he); intro H2 hn2 hle2; have heg := Enc.mono hle2 (Enc.mono hp5 he); have hpg := (fun (x : Entry) (hx : x ∈ p.2.1) => Enc.mono hle2 (hp2 x hx)); obtain ⟨hi, ha⟩ | ⟨k, hk, hi, hpk, hbk⟩ := indexC_cases (fun x : Entry => alikeC x.c e.c) p.2.1) | (apply TL.val; rfl; rfl; ((apply V.makeFunc (vs := []) (us := [_]) <;> rfl))) | (apply TL.call0 (f := 58) Tryz.call58; rfl; rfl; rfl; (exact fun _ hs => c_IndexRow Tryz.call59 hs rfl hpg (says_learn hn2 heg hpg) hi)) | (apply TL.val; rfl; rfl; (apply V.lenE; (iterate 5 rfl))) | (apply TL.val; rfl; rfl; (apply V.build; (iterate 6 rfl))) | (apply TL.val; rfl; rfl; (apply V.load_H; rfl; rfl; rfl; exact (show Hp.cells _ _ _ (enc e) from hn2.all) 6 _ rfl)) | (apply TL.val; rfl; rfl; (apply V.load_H_row; rfl; rfl; rfl; exact (show Hp.cells _ _ _ (enc e) from hn2.all); rfl)) | (apply TL.x; rfl; rfl; (apply X.callS0 Tryz.call60; rfl; rfl; exact fun _ hs => c_Delete (k := k) hs rfl hp3 (by omega) hk); intro _ _) | (apply TL.x; rfl; rfl; (apply X.callFE (f := 61) [.agg (enc e).toArray] Tryz.call61; rfl; rfl; rfl; exact (fun _ hs => c_cloneEntry e _ _ hs.sat heg hbe.1 hbe.2)); intro q hq) | (apply TL.val; rfl; rfl; (apply V.elem (j := k); (iterate 6 rfl); exact hk; rfl)) | (apply TL.x; rfl; rfl; (refine X.storeRowE 0 (vs := enc q.2) (ys := encs (p.2.1.set k q.2)) rfl rfl rfl rfl rfl rfl rfl (by show 0 + k * 7 + 7 ≤ p.2.1.length * 7; omega) (encs_put (j := 0) (vs := enc q.2) (y := q.2) (x := p.2.1[k]) (List.getElem?_eq_getElem hk) (show 0 + 7 ≤ 7 by omega) rfl (show 0 + k * 7 = k * 7 + 0 by omega))); intro _ _) | (apply TL.x; rfl; rfl; (apply X.append1 1; (iterate 9 rfl); exact List.Mem.head _; rfl; rfl; rfl; (refine Nat.le_trans (Nat.mul_le_mul_left _ (show _ ≤ 1000 by decide)) ?_; show (p.2.1.length + 1) * 1000 ≤ _; omega); (show p.2.1.length + 1 ≤ _; omega)); intro p2 _) | (apply TL.val; rfl; rfl; (first | exact vpure | exact vread)) | (apply TL.x; rfl; rfl; (first | exact xgrow | exact xput); intro _ _)))
  all_goals (try (exfalso; omega))
  all_goals
    have hlenF : (freshC c.c now).length = p.2.1.length := by rw [← hp1, List.length_map]
    apply N.ret2; rfl; (exact rvx); (exact rvx)
    intro w1 hst
  · have hF : ∀ o ∈ freshC c.c now, alikeC o e.c = false := fun o ho => by
      rw [← hp1] at ho
      obtain ⟨x, hx, rfl⟩ := List.mem_map.1 ho
      exact ha x hx
    exact cache_end hst (by repeat (first | exact List.Sublist.refl _ | exact List.nil_sublist _ | apply List.Sublist.cons_cons | apply List.Sublist.cons)) rfl hpg (by rw [learn_over0 (by assumption) hF, hp1])
  · have hF : ∀ o ∈ freshC c.c now, alikeC o e.c = false := fun o ho => by
      rw [← hp1] at ho
      obtain ⟨x, hx, rfl⟩ := List.mem_map.1 ho
      exact ha x hx
    rw [learn_full (by assumption) hF (by omega)]
    exact ⟨(H2, ⟨Slc.nil _⟩), ⟨rfl, Slc.nil_good⟩, rfl, hst.fresh⟩
  · have hF : ∀ o ∈ freshC c.c now, alikeC o e.c = false := fun o ho => by
      rw [← hp1] at ho
      obtain ⟨x, hx, rfl⟩ := List.mem_map.1 ho
      exact ha x hx
    obtain ⟨⟨q1, q2⟩, q3⟩ := hq
    rw [← encs_snoc] at hst
    refine cache_end hst (by repeat (first | exact List.Sublist.refl _ | exact List.nil_sublist _ | apply List.Sublist.cons_cons | apply List.Sublist.cons)) (by rw [List.length_append]; rfl) (fun x hx => ?_) (by rw [learn_new (by assumption) hF (by omega), ← hp1, List.map_append, ← q1]; rfl)
    rcases List.mem_append.1 hx with hx | hx
    · exact Enc.mono q3 (hpg x hx)
    · rw [List.mem_singleton] at hx
      subst hx
      exact q2
  · have hkF : k < (freshC c.c now).length := by omega
    have hF : alikeC (freshC c.c now)[k] e.c = true := by simp only [← hp1, List.getElem_map]; exact hpk
    exact cache_end hst (by repeat (first | exact List.Sublist.refl _ | exact List.nil_sublist _ | apply List.Sublist.cons_cons | apply List.Sublist.cons)) rfl (fun x hx => hpg x (List.mem_of_mem_eraseIdx hx)) (by rw [learn_over (by assumption) hkF hF hok, ← hp1, map_erase])
  · have hkF : k < (freshC c.c now).length := by omega
    have hF : alikeC (freshC c.c now)[k] e.c = true := by simp only [← hp1, List.getElem_map]; exact hpk
    obtain ⟨⟨q1, q2⟩, q3⟩ := hq
    refine cache_end hst (by repeat (first | exact List.Sublist.refl _ | exact List.nil_sublist _ | apply List.Sublist.cons_cons | apply List.Sublist.cons)) (by rw [List.length_set]) (fun x hx => ?_) (by rw [learn_at (by assumption) hkF hF hok, ← hp1, List.map_set, q1])
    rcases List.mem_or_eq_of_mem_set hx with hx | rfl
    · exact Enc.mono q3 (hpg x hx)
    · exact q2
end Go.Proofs.YtepljgpikfeklaaGreatDoor
