import Derived.Test.YtepljgpikfeklaaGreatDoorQVC
import Derived.Test.YtepljgpikfeklaaGreatDoorQEngR
import Derived.Test.YtepljgpikfeklaaGreatDoorQVO
import Derived.Test.YtepljgpikfeklaaGreatDoorQZL
import Derived.Test.YtepljgpikfeklaaGreatDoorQZW
import Derived.Test.YtepljgpikfeklaaGreatDoorQZI
namespace Go.Proofs.YtepljgpikfeklaaGreatDoor
set_option linter.unusedVariables false
set_option linter.unusedSimpArgs false
open Go Go.RowKit
open Enc (enc)
set_option maxRecDepth 20000
theorem c_apexOf (c : CopyV) {H : Hp} {w : World} (hs : Sat H w) : Calls Tryz.prog 69 #[.agg (enc c).toArray] w (Ret w (strV c.zone.apex)) := by
  refine T.enter (vs := [.agg (enc c).toArray]) (H := H) Tryz.func69 rfl rfl rfl hs ?_
  repeat (any_goals (first | refine T.seq ?_ | refine T.region ?_ | refine TL.nil ?_ | refine N.next ?_ | refine T.ret ?_ | (apply TL.val; rfl; rfl; (first | exact vpure | exact vread)) | (apply TL.x; rfl; rfl; (first | exact xgrow | exact xput); intro _ _)))
  exact N.ret1 rfl (by (exact rvx)) fun w hst => ⟨rfl, hst.below⟩
def uniqC (l : List Bytes) : List Bytes := l.foldl putZ []
def uniqUp (l : List Bytes) (k : Nat) : List Bytes := (l.take k).foldl putZ []
theorem uniqUp_next {l : List Bytes} {k : Nat} (hk : k < l.length) : uniqUp l (k + 1) = putZ (uniqUp l k) l[k] := by
  unfold uniqUp
  rw [List.take_succ_eq_append_getElem hk, List.foldl_append]; rfl
theorem putZ_len (l : List Bytes) (x : Bytes) : (putZ l x).length ≤ l.length + 1 := by
  unfold putZ
  split
  · omega
  · simp
theorem uniqUp_len (l : List Bytes) : ∀ k, (uniqUp l k).length ≤ k
  | 0 => by simp [uniqUp]
  | k + 1 => by
    rcases Nat.lt_or_ge k l.length with h | h
    · rw [uniqUp_next h]
      have := putZ_len (uniqUp l k) l[k]
      have := uniqUp_len l k
      omega
    · have e : uniqUp l (k + 1) = uniqUp l k := by unfold uniqUp; rw [List.take_of_length_le (by omega), List.take_of_length_le h]
      rw [e]
      have := uniqUp_len l k
      omega
theorem uniqUp_mem {l : List Bytes} {k : Nat} {x : Bytes} (h : x ∈ uniqUp l k) : x ∈ l := by
  unfold uniqUp at h
  rw [mem_foldZ] at h
  rcases h with h | h
  · cases h
  · exact List.mem_of_mem_take h
set_option maxHeartbeats 4000000 in
theorem c_unique (s : Slc CopyV) (hf : s.len ≤ 4000) {H : Hp} {w : World} (hs : Sat H w) (hg : s.Good H) : Calls Tryz.prog 68 #[s.v, .func (.func 69) #[] #[]] w (RetF w H (fun p : Hp × Slc Bytes => p.2.els = uniqC (apexesOf s.els) ∧ p.2.Good p.1) (fun p => p.2.v) (fun p => p.1)) := by
  have hlen := hg.len
  have hlim := hg.lim
  have hal : (apexesOf s.els).length = s.len := by unfold apexesOf; rw [List.length_map, hlen]
  refine T.enter (vs := [s.v, .func (.func 69) #[] #[]]) (H := H) Tryz.func68 rfl rfl rfl hs ?_
  repeat (any_goals (first | refine T.seq ?_ | refine T.region ?_ | refine TL.nil ?_ | refine N.next ?_ | refine T.block ?_ | (apply TL.x; rfl; rfl; (apply X.makeMap (fun a : Bytes => strV a); rfl); intro bm _) | (apply TL.val; rfl; rfl; (first | exact vpure | exact vread))))
  refine T.nilRow 9 1 ?_
  refine T.loop (G := Value × Nat) (fun g => [(1, .func (.func 69) #[] #[]), (5, .map (some bm)), (6, g.1), (11, s.v), (12, intV s.len), (13, intV g.2)]) (fun _ => H) (fun g => [.row g.1 9 1 (uniqUp (apexesOf s.els) g.2).length (encs (uniqUp (apexesOf s.els) g.2)), .any bm (mObj (fun a : Bytes => strV a) ((uniqUp (apexesOf s.els) g.2).map fun x => (x, Value.bool true)))]) (fun g => g.2 ≤ s.len) (fun g => s.len - g.2) (.slice none 0 0, 0) (Nat.zero_le _) (by (repeat (first | exact True.intro | refine ⟨rfl, ?_⟩ | refine Sub.int rfl (by omega) ?_))) rfl (by (repeat (first | exact List.Sublist.refl _ | exact List.nil_sublist _ | apply List.Sublist.cons_cons | apply List.Sublist.cons))) ?_
  rintro ⟨v, k⟩ hk
  simp only at hk ⊢
  by_cases hlt : k < s.len
  · have hkl : k < s.els.length := by omega
    have hrow := hg.row (k := k) hlt
    have hup := uniqUp_next (l := apexesOf s.els) (k := k) (by omega)
    rw [apexesOf_at hkl] at hup
    have hcl := uniqUp_len (apexesOf s.els) k
    obtain ⟨cs, hcs⟩ : ∃ cs, uniqUp (apexesOf s.els) k = cs := ⟨_, rfl⟩
    obtain ⟨x, hx⟩ : ∃ x, s.els[k]'hkl = x := ⟨_, rfl⟩
    rw [hcs, hx] at hup
    try rw [hx] at hrow
    rw [hcs] at hcl ⊢
    by_cases hm : x.zone.apex ∈ cs
    · have hp : putZ cs x.zone.apex = cs := if_pos hm
      rw [hp] at hup
      have hget : (aGet x.zone.apex (cs.map fun x => (x, Value.bool true))).getD (.bool false) = .bool true := (aGet_set x.zone.apex cs).trans (congrArg Value.bool ((decide_eq_decide.2 Iff.rfl).trans (decide_eq_true hm)))
      repeat (any_goals (first | refine T.seq ?_ | refine T.region ?_ | refine TL.nil ?_ | refine N.next ?_ | refine N.inBlock ?_ | refine N.exit_same ?_ | refine N.exit_then ?_ | refine T.ret ?_ | refine T.skip ?_ | refine T.exit ?_ | refine T.block ?_ | (apply T.cond_false; rfl) | (apply T.test; rfl; (exact isx); intro _; rotate_left; intro _; rotate_right) | (apply TL.val; rfl; rfl; (apply V.elem (j := k); (iterate 6 rfl); omega; exact hg.at_ (by omega))) | (apply TL.val; rfl; rfl; (apply V.load_H_row; rfl; rfl; rfl; exact hrow; rfl)) | (apply TL.x; rfl; rfl; (apply X.alloc (d := 8); rfl; rfl; rfl); intro b8 _) | (apply TL.x; rfl; rfl; (apply X.storeTo 0 (enc x); (iterate 10 rfl)); intro _ _) | (apply TL.call; (iterate 4 rfl); exact Tryz.call69; exact fun _ hs => c_apexOf x hs.sat) | (apply TL.val; rfl; rfl; (apply V.mlookup (mk := fun a : Bytes => strV a) x.zone.apex; rfl; rfl; rfl; exact keyS Tryz.underlying9; rfl; rfl; (exact lmem); exact hget)) | (apply TL.val; rfl; rfl; (first | exact vpure | exact vread))))
      all_goals (try contradiction)
      all_goals (try (exfalso; omega))
      refine N.round (v, k + 1) (by show k + 1 ≤ _; omega) (by show s.len - (k + 1) < s.len - k; omega) (by (repeat (first | exact True.intro | refine ⟨rfl, ?_⟩ | refine Sub.int rfl (by omega) ?_))) rfl ?_
      simp only [hup]
      (repeat (first | exact List.Sublist.refl _ | exact List.nil_sublist _ | apply List.Sublist.cons_cons | apply List.Sublist.cons))
    · have hp : putZ cs x.zone.apex = cs ++ [x.zone.apex] := if_neg hm
      rw [hp] at hup
      have hget : (aGet x.zone.apex (cs.map fun x => (x, Value.bool true))).getD (.bool false) = .bool false := (aGet_set x.zone.apex cs).trans (congrArg Value.bool ((decide_eq_decide.2 Iff.rfl).trans (decide_eq_false hm)))
      repeat (any_goals (first | refine T.seq ?_ | refine T.region ?_ | refine TL.nil ?_ | refine N.next ?_ | refine N.inBlock ?_ | refine N.exit_same ?_ | refine N.exit_then ?_ | refine T.ret ?_ | refine T.skip ?_ | refine T.exit ?_ | refine T.block ?_ | (apply T.cond_true; rfl) | (apply T.test; rfl; (exact isx); intro _; rotate_left; intro _; rotate_right) | (apply TL.val; rfl; rfl; (apply V.elem (j := k); (iterate 6 rfl); omega; exact hg.at_ (by omega))) | (apply TL.val; rfl; rfl; (apply V.load_H_row; rfl; rfl; rfl; exact hrow; rfl)) | (apply TL.x; rfl; rfl; (apply X.alloc (d := 8); rfl; rfl; rfl); intro b8 _) | (apply TL.x; rfl; rfl; (apply X.storeTo 0 (enc x); (iterate 10 rfl)); intro _ _) | (apply TL.call; (iterate 4 rfl); exact Tryz.call69; exact fun _ hs => c_apexOf x hs.sat) | (apply TL.val; rfl; rfl; (apply V.mlookup (mk := fun a : Bytes => strV a) x.zone.apex; rfl; rfl; rfl; exact keyS Tryz.underlying9; rfl; rfl; (exact lmem); exact hget)) | (apply TL.x; rfl; rfl; (apply X.mput (mk := fun a : Bytes => strV a) 2 x.zone.apex; rfl; rfl; exact keyS Tryz.underlying9; (iterate 4 rfl); exact mput_toZ (aPut_set hm) rfl); intro _ _) | (apply TL.x; rfl; rfl; (apply X.buildSlice1 (d := 28); (iterate 8 rfl)); intro b28 _) | (apply TL.x; rfl; rfl; (apply X.append1 2; (iterate 9 rfl); exact List.Mem.head _; rfl; rfl; rfl; (refine Nat.le_trans (Nat.mul_le_mul_right _ (show _ ≤ 20001 by omega)) ?_; decide); omega); intro pa _) | (apply TL.val; rfl; rfl; (first | exact vpure | exact vread))))
      all_goals (try contradiction)
      all_goals (try (exfalso; omega))
      refine N.round (.slice (some ⟨pa.1, 0, none⟩) (cs.length + 1) pa.2, k + 1) (by show k + 1 ≤ _; omega) (by show s.len - (k + 1) < s.len - k; omega) (by (repeat (first | exact True.intro | refine ⟨rfl, ?_⟩ | refine Sub.int rfl (by omega) ?_))) rfl ?_
      simp only [hup, List.length_append, List.length_cons, List.length_nil, Nat.zero_add, encs_snoc]
      (repeat (first | exact List.Sublist.refl _ | exact List.nil_sublist _ | apply List.Sublist.cons_cons | apply List.Sublist.cons))
  · have hke : k = s.len := by omega
    subst hke
    have hla : uniqUp (apexesOf s.els) s.len = uniqC (apexesOf s.els) := by unfold uniqUp uniqC; rw [List.take_of_length_le (by omega)]
    have hgo : ∀ x ∈ uniqC (apexesOf s.els), Enc.good H x := fun x hx => by
      have := uniqUp_mem (k := s.len) (hla ▸ hx)
      unfold apexesOf at this
      obtain ⟨c, hc, rfl⟩ := List.mem_map.1 this
      exact (hg.els c hc).2.2.2.1
    rw [hla]
    apply T.frzRow 0 (els := uniqC (apexesOf s.els)); rfl; rfl; rfl
    · exact hgo
    intro H3 sl e1 e2 e3 hle3
    subst e1
    repeat (any_goals (first | refine T.seq ?_ | refine T.region ?_ | refine TL.nil ?_ | refine N.next ?_ | refine N.exit_same ?_ | refine N.exit_then ?_ | refine T.ret ?_ | refine T.skip ?_ | refine T.exit ?_ | refine T.block ?_ | (apply T.test; rfl; (exact isx); intro _; rotate_left; intro _; rotate_right) | (apply TL.val; rfl; rfl; (first | exact vpure | exact vread))))
    all_goals (try (exfalso; omega))
    exact N.ret1 rfl (by (exact rvx)) fun w hst => ⟨(H3, sl), ⟨e2, e3⟩, rfl, hst.fresh⟩
end Go.Proofs.YtepljgpikfeklaaGreatDoor
namespace Go.Proofs.YtepljgpikfeklaaGreatDoor
set_option linter.unusedVariables false
set_option linter.unusedSimpArgs false
open Go Go.RowKit
theorem nodup_len : ∀ {l l' : List Bytes}, l.Nodup → (∀ x ∈ l, x ∈ l') → l.length ≤ l'.length
  | [], _, _, _ => by simp
  | x :: t, l', hn, hs => by
    obtain ⟨h1, h2⟩ := List.nodup_cons.1 hn
    have hx := hs x (List.mem_cons_self ..)
    have ih := nodup_len (l := t) (l' := l'.erase x) h2 fun y hy => by
      have hy' := hs y (List.mem_cons_of_mem _ hy)
      refine (List.mem_erase_of_ne fun e => ?_).2 hy'
      subst e; exact h1 hy
    rw [List.length_erase_of_mem hx] at ih
    have : 0 < l'.length := List.length_pos_of_mem hx
    rw [List.length_cons]
    omega
theorem putZ_nodup {l : List Bytes} {x : Bytes} (h : l.Nodup) : (putZ l x).Nodup := by
  unfold putZ
  split
  · exact h
  · rename_i hx
    rw [List.nodup_append]
    refine ⟨h, by simp, fun a ha b hb => ?_⟩
    rw [List.mem_singleton.1 hb]
    intro e
    subst e
    exact hx ha
theorem foldZ_nodup : ∀ {l acc : List Bytes}, acc.Nodup → (l.foldl putZ acc).Nodup
  | [], _, h => h
  | _ :: t, _, h => foldZ_nodup (l := t) (putZ_nodup h)
theorem foldA_mem : ∀ {l acc : List Bytes} {y : Bytes}, y ∈ l.foldl insA acc ↔ y ∈ acc ∨ y ∈ l
  | [], acc, y => by simp
  | x :: t, acc, y => by
    rw [List.foldl_cons, foldA_mem, insA_mem, List.mem_cons, or_assoc]
theorem uniq_few (l : List Bytes) : (uniqC l).length ≤ (apexesC l).length := by
  refine nodup_len (foldZ_nodup List.nodup_nil) fun x hx => ?_
  unfold uniqC at hx
  rw [mem_foldZ] at hx
  unfold apexesC
  rw [foldA_mem]
  exact hx
end Go.Proofs.YtepljgpikfeklaaGreatDoor
namespace Go.Proofs.YtepljgpikfeklaaGreatDoor
set_option linter.unusedVariables false
set_option linter.unusedSimpArgs false
open Go Go.RowKit
open Enc (enc)
set_option maxRecDepth 20000
theorem c_cmpSpanN (a b : SpanV) {H : Hp} {w : World} (hs : Sat H w) : Calls Tryz.prog 172 #[.agg (enc a).toArray, .agg (enc b).toArray] w (Ret w (intV (cmpI a.frm b.frm))) := by
  refine T.enter (vs := [.agg (enc a).toArray, .agg (enc b).toArray]) (H := H) Tryz.func172 rfl rfl rfl hs ?_
  repeat (any_goals (first | refine T.seq ?_ | refine T.region ?_ | refine TL.nil ?_ | refine N.next ?_ | refine T.ret ?_ | (apply TL.callE (f := 67) [intV a.frm, intV b.frm] Tryz.call67; (iterate 4 rfl); (exact fun _ hs => c_cmpI _ _ _ _ hs.sat)) | (apply TL.val; rfl; rfl; (first | exact vpure | exact vread)) | (apply TL.x; rfl; rfl; (first | exact xgrow | exact xput); intro _ _)))
  exact N.ret_int rfl (by (exact rvx)) rfl
theorem c_cmpSpanH (a b : SpanV) {H : Hp} {w : World} (hs : Sat H w) : Calls Tryz.prog 66 #[.agg (enc a).toArray, .agg (enc b).toArray] w (Ret w (intV (cmpI a.frm b.frm))) := by
  refine T.enter (vs := [.agg (enc a).toArray, .agg (enc b).toArray]) (H := H) Tryz.func66 rfl rfl rfl hs ?_
  repeat (any_goals (first | refine T.seq ?_ | refine T.region ?_ | refine TL.nil ?_ | refine N.next ?_ | refine T.ret ?_ | (apply TL.callE (f := 67) [intV a.frm, intV b.frm] Tryz.call67; (iterate 4 rfl); (exact fun _ hs => c_cmpI _ _ _ _ hs.sat)) | (apply TL.val; rfl; rfl; (first | exact vpure | exact vread)) | (apply TL.x; rfl; rfl; (first | exact xgrow | exact xput); intro _ _)))
  exact N.ret_int rfl (by (exact rvx)) rfl
end Go.Proofs.YtepljgpikfeklaaGreatDoor
namespace Go.Proofs.YtepljgpikfeklaaGreatDoor
set_option linter.unusedVariables false
set_option linter.unusedSimpArgs false
open Go Go.RowKit
set_option maxRecDepth 20000
instance : Inhabited SpanV := ⟨⟨0, 0⟩⟩
theorem ltSpan (a b : SpanV) : ltOf (fun a b : SpanV => cmpI a.frm b.frm) a b = decide (a.frm < b.frm) := by
  unfold ltOf cmpI
  by_cases h1 : a.frm < b.frm
  · simp [h1]
  · by_cases h2 : b.frm < a.frm <;> simp [h1, h2]
theorem swoSpan : Go.Sort.SWO (ltOf fun a b : SpanV => cmpI a.frm b.frm) where
  irrefl x := by rw [ltSpan]; simp
  trans x y z h1 h2 := by rw [ltSpan] at *; simp at *; omega
  ntrans x y z h1 h2 := by rw [ltSpan] at *; simp at *; omega
structure SpansSorted (xs ys : List SpanV) : Prop where
  perm : ys.Perm xs
  ord : ys.Pairwise fun a b => a.frm ≤ b.frm
theorem spansSorted {xs ys : List SpanV} (h : SortedZ (fun a b : SpanV => cmpI a.frm b.frm) xs ys) : SpansSorted xs ys :=
  ⟨h.perm, h.ord.imp fun hab => by rw [ltSpan] at hab; simpa using hab⟩
section
variable {w0 w : World} {H0 H : Hp} {LL : List Loc}
theorem c_sortN {v : Value} {xs : List SpanV} (hs : St w0 H0 H LL w) (i : Nat) (hi : LL[i]? = some (.row v 134 2 xs.length (encs xs))) (hlen : xs.length ≤ 20000) :
    CallsIn (FW none) 0 Tryz.prog 65 [v, .func (.func 172) #[] #[]].toArray w (fun e' w' => ∃ ys : List SpanV, SpansSorted xs ys ∧ e' = .returned (.tuple #[]) ∧ St w0 H0 H (LL.set i (.row v 134 2 ys.length (encs ys))) w') :=
  callsFW ((c_sortK (α := SpanV) laySp Tryz.isAgg134 Tryz.sizeOf134 (fun a b => cmpI a.frm b.frm) swoSpan 172 Tryz.call172 (fun x y W => c_cmpSpanN x y (H := fun _ => none) (fun _ _ h => by cases h)) hs i hi (by omega)).mono fun _ _ ⟨ys, h, r⟩ => ⟨ys, spansSorted h, r⟩)
theorem c_sortH {v : Value} {xs : List SpanV} (hs : St w0 H0 H LL w) (i : Nat) (hi : LL[i]? = some (.row v 134 2 xs.length (encs xs))) (hlen : xs.length ≤ 20000) :
    CallsIn (FW none) 0 Tryz.prog 65 [v, .func (.func 66) #[] #[]].toArray w (fun e' w' => ∃ ys : List SpanV, SpansSorted xs ys ∧ e' = .returned (.tuple #[]) ∧ St w0 H0 H (LL.set i (.row v 134 2 ys.length (encs ys))) w') :=
  callsFW ((c_sortK (α := SpanV) laySp Tryz.isAgg134 Tryz.sizeOf134 (fun a b => cmpI a.frm b.frm) swoSpan 66 Tryz.call66 (fun x y W => c_cmpSpanH x y (H := fun _ => none) (fun _ _ h => by cases h)) hs i hi (by omega)).mono fun _ _ ⟨ys, h, r⟩ => ⟨ys, spansSorted h, r⟩)
end
def NameZ : Type := {s : Bytes // nameOK s = true}
instance : Inhabited NameZ := ⟨⟨[46], by decide⟩⟩
theorem ltName (a b : NameZ) : ltOf (fun a b : NameZ => ordN a.1 b.1) a b = true ↔ ¬ leN b.1 a.1 = true := by
  unfold ltOf
  have h := ordN_flip a.1 b.1
  rw [decide_eq_true_iff, leN_iff]
  show ordN a.1 b.1 < 0 ↔ _
  omega
theorem swoName : Go.Sort.SWO (ltOf fun a b : NameZ => ordN a.1 b.1) where
  irrefl x := by
    have := (ltName x x).1
    cases h : ltOf (fun a b : NameZ => ordN a.1 b.1) x x with
    | false => rfl
    | true => exact absurd (ordNames.refl x.1) (this h)
  trans x y z h1 h2 := by
    rw [ltName] at *
    intro h
    rcases ordNames.total x.1 y.1 with h3 | h3
    · exact h2 (ordNames.trans h h3)
    · exact h1 h3
  ntrans x y z h1 h2 := by
    have f : ∀ {a b : NameZ}, ltOf (fun a b : NameZ => ordN a.1 b.1) a b = false → leN b.1 a.1 = true := fun {a b} h => by
      cases hl : leN b.1 a.1 with
      | true => rfl
      | false => rw [(ltName a b).2 (by rw [hl]; simp)] at h; cases h
    cases h : ltOf (fun a b : NameZ => ordN a.1 b.1) x z with
    | false => rfl
    | true => exact absurd (ordNames.trans (f h2) (f h1)) ((ltName x z).1 h)
theorem c_cmpZones (a b : Bytes) (ha : nameOK a = true) (hb : nameOK b = true) {H : Hp} {w : World} (hs : Sat H w) : Calls Tryz.prog 125 #[strV a, strV b] w (Ret w (intV (ordN a b))) := by
  refine T.enter (vs := [strV a, strV b]) (H := H) Tryz.func125 rfl rfl rfl hs ?_
  repeat (any_goals (first | refine T.seq ?_ | refine T.region ?_ | refine TL.nil ?_ | refine N.next ?_ | refine T.ret ?_ | (apply TL.callE (f := 126) [strV a, strV b] Tryz.call126; (iterate 4 rfl); (exact fun _ hs => c_CompareN a b ha hb hs.sat)) | (apply TL.val; rfl; rfl; (first | exact vpure | exact vread))))
  exact N.ret_int rfl (by (exact rvx)) rfl
theorem toNames : ∀ {l : List Bytes}, (∀ x ∈ l, nameOK x = true) → ∃ m : List NameZ, m.map (·.1) = l
  | [], _ => ⟨[], rfl⟩
  | x :: t, h => by
    obtain ⟨m, hm⟩ := toNames (l := t) fun y hy => h y (List.mem_cons_of_mem _ hy)
    exact ⟨⟨x, h x (List.mem_cons_self ..)⟩ :: m, congrArg (x :: ·) hm⟩
section
variable {w0 w : World} {H0 H : Hp} {LL : List Loc}
theorem encs_names (l : List Bytes) : encs l = l.map strV := by
  induction l with
  | nil => rfl
  | cons x t ih => show [strV x] ++ encs t = _; rw [ih]; rfl
theorem c_sortZones {v : Value} {xs : List Bytes} (hn : ∀ x ∈ xs, nameOK x = true) (hs : St w0 H0 H LL w) (i : Nat) (hi : LL[i]? = some (.row v 9 1 xs.length (encs xs))) (hlen : xs.length ≤ 20000) :
    CallsIn (FW none) 0 Tryz.prog 124 [v, .func (.func 125) #[] #[]].toArray w (fun e' w' => ∃ ys : List Bytes, ys.Perm xs ∧ e' = .returned (.tuple #[]) ∧ St w0 H0 H (LL.set i (.row v 9 1 ys.length (encs ys))) w') := by
  obtain ⟨m, rfl⟩ := toNames hn
  rw [encs_names, List.length_map, List.map_map] at hi
  refine callsFW ((c_sort1 (α := NameZ) laySt0 laySt (fun a => strV a.1) (fun _ => rfl) (fun a b => ordN a.1 b.1) swoName 125 Tryz.call125 (fun x y W => c_cmpZones x.1 y.1 x.2 y.2 (H := fun _ => none) (fun _ _ h => by cases h)) hs i hi (by rw [List.length_map] at hlen; omega)).mono fun e' w' ⟨ys, h, he, hst⟩ => ⟨ys.map (·.1), h.perm.map _, he, ?_⟩)
  rw [encs_names, List.length_map, List.map_map]
  exact hst
end
end Go.Proofs.YtepljgpikfeklaaGreatDoor
namespace Go.Proofs.YtepljgpikfeklaaGreatDoor
set_option linter.unusedVariables false
set_option linter.unusedSimpArgs false
open Go Go.RowKit
open Enc (enc)
set_option maxRecDepth 20000
theorem Hp.cells_sub {H : Hp} {b o : Nat} {l : List Value} (h : H.cells b o l) {j m : Nat} {vs : List Value} (hv : (l.drop j).take m = vs) : H.cells b (o + j) vs := fun q v hq => by
  rw [← hv, List.getElem?_take] at hq
  split at hq
  · rw [List.getElem?_drop] at hq
    have := h (j + q) v hq
    rwa [← Nat.add_assoc] at this
  · cases hq
structure PlaceV where
  host : Int
  apex : List UInt8
deriving DecidableEq
instance : Enc PlaceV where
  size := 2
  enc p := [intV p.host, strV p.apex]
  good _ p := I64 p.host ∧ LenOk p.apex
  len _ := rfl
  mono _ h := h
  one _ := rfl
  pos := by decide
def plV (p : PlaceV) : Value := .agg (enc p).toArray
theorem eq_Place (a b : PlaceV) (w : World) : (Op.equalIn 10000 132 (.agg (enc a).toArray) (.agg (enc b).toArray)).run Tryz.prog w = .ok (decide (a = b)) w := by
  have hS : Tryz.prog.underlying 132 = some (.struct (Tryz.prog.fieldsOf 132)) := by kernel_rfl
  rw [show (10000 : Nat) = 9999 + 1 from rfl, run_equalIn_agg w 9999 132 _ _ hS Tryz.stoodInHeld132]
  simp only [Program.fieldsOf, Tryz.underlying132]
  have e : decide (a = b) = (decide (a.host = b.host) && (decide (a.apex = b.apex) && true)) := by
    rw [Bool.eq_iff_iff]; cases a; cases b; simp
  rw [e]
  refine eqF_cons (by decide) rfl rfl rfl rfl (eqI Tryz.underlying3) ?_
  refine eqF_cons (by decide) rfl rfl rfl rfl (eqS Tryz.underlying9) ?_
  exact eqF_nil
theorem key_pl : KeyG Tryz.prog 132 plV where
  find := run_findG (kd := .struct (Tryz.prog.fieldsOf 132)) (by kernel_rfl) (fun _ _ => rfl) (fun a b w => eq_Place a b w)
  check := fun e a w => by
    have hS : Tryz.prog.underlying 132 = some (.struct (Tryz.prog.fieldsOf 132)) := by kernel_rfl
    obtain ⟨a1, a2⟩ := a
    show (Instr.checkKey e 10000 132 (.agg #[intV a1, strV a2])).run Tryz.prog w = .ok () w
    rw [show (10000 : Nat) = 9999 + 1 from rfl, Instr.checkKey]
    simp only [Sem.run_bind, run_underlying hS, Result.andThen_ok]
    rw [← Array.forIn_toList]
    simp only [Program.fieldsOf, Tryz.underlying132, List.toList_toArray]
    have p1 : (part 3 #[intV a1, strV a2] 0).run Tryz.prog w = .ok (intV a1) w := run_part rfl rfl rfl w
    have p2 : (part 9 #[intV a1, strV a2] 1).run Tryz.prog w = .ok (strV a2) w := run_part rfl rfl rfl w
    simp [List.forIn_cons, Sem.run_bind, p1, p2, checkS Tryz.underlying9, checkI Tryz.underlying3]
  bits := fun a => by
    have hs : ∀ x : Bytes, Instr.sameBits 9999 (strV x) (strV x) = true := fun x => by
      simp only [Instr.sameBits]; rw [beq_toListBytes, bytes_eq]; simp
    have hi : ∀ x : Int, Instr.sameBits 9999 (intV x) (intV x) = true := fun x => by simp [Instr.sameBits]
    show ((2 : Nat) == 2 && (Instr.sameBits 9999 (intV a.host) (intV a.host) && (Instr.sameBits 9999 (strV a.apex) (strV a.apex) && true))) = true
    rw [hs, hi]; rfl
structure Grp where
  key : PlaceV
  b : Nat
  c : Nat
  els : List SpanV
def Grp.v (g : Grp) : Value := .slice (some ⟨g.b, 0, none⟩) g.els.length g.c
def Grp.loc (g : Grp) : Loc := .row g.v 134 2 g.els.length (encs g.els)
def gMap (l : List Grp) : List (PlaceV × Value) := l.map fun g => (g.key, g.v)
def gRows (l : List Grp) : List Loc := l.map Grp.loc
theorem gMap_snoc (l : List Grp) (g : Grp) : gMap (l ++ [g]) = gMap l ++ [(g.key, g.v)] := by unfold gMap; rw [List.map_append]; rfl
theorem gRows_snoc (l : List Grp) (g : Grp) : gRows (l ++ [g]) = gRows l ++ [g.loc] := by unfold gRows; rw [List.map_append]; rfl
theorem gMap_len (l : List Grp) : (gMap l).length = l.length := by unfold gMap; rw [List.length_map]
theorem gRows_len (l : List Grp) : (gRows l).length = l.length := by unfold gRows; rw [List.length_map]
theorem gMap_at {l : List Grp} {j : Nat} {g : Grp} (h : l[j]? = some g) : (gMap l)[j]? = some (g.key, g.v) := by unfold gMap; rw [List.getElem?_map, h]; rfl
theorem gRows_at {l : List Grp} {j : Nat} {g : Grp} (h : l[j]? = some g) : (gRows l)[j]? = some g.loc := by unfold gRows; rw [List.getElem?_map, h]; rfl
theorem gMap_set (l : List Grp) (j : Nat) (g : Grp) : gMap (l.set j g) = (gMap l).set j (g.key, g.v) := by unfold gMap; rw [List.map_set]
theorem gRows_set (l : List Grp) (j : Nat) (g : Grp) : gRows (l.set j g) = (gRows l).set j g.loc := by unfold gRows; rw [List.map_set]
theorem set_end {α : Type} (A : List α) (x y : α) : (A ++ [x]).set A.length y = A ++ [y] := by
  induction A with
  | nil => rfl
  | cons z A ih => show z :: (A ++ [x]).set A.length y = _; rw [ih]; rfl
theorem get_end {α : Type} (A : List α) (x : α) : (A ++ [x])[A.length]? = some x := by
  rw [List.getElem?_append_right (Nat.le_refl _), Nat.sub_self]; rfl
theorem gFind {l : List Grp} {a : PlaceV} : (aFind a (gMap l) 0 = none) ∨ ∃ j g, aFind a (gMap l) 0 = some (j, g.v) ∧ l[j]? = some g ∧ g.key = a := by
  cases h : aFind a (gMap l) 0 with
  | none => exact .inl rfl
  | some p =>
    obtain ⟨j, v⟩ := p
    refine .inr ?_
    have h2 := (aFind_some h).2
    rw [Nat.sub_zero] at h2
    unfold gMap at h2
    rw [List.getElem?_map] at h2
    cases hg : l[j]? with
    | none => rw [hg] at h2; cases h2
    | some g =>
      rw [hg] at h2
      simp only [Option.map_some, Option.some.injEq, Prod.mk.injEq] at h2
      exact ⟨j, g, by rw [h2.2], hg, h2.1⟩
def ApartS (a b : SpanV) : Prop := ¬ (a.frm < b.til ∧ b.frm < a.til)
theorem ApartS.symm {a b : SpanV} (h : ApartS a b) : ApartS b a := fun ⟨h1, h2⟩ => h ⟨h2, h1⟩
structure GrpOK (h : HistV) (k : Nat) (g : Grp) : Prop where
  apart : g.els.Pairwise ApartS
  each : ∀ s ∈ g.els, ∃ i, ∃ hi : i < h.copies.els.length, i < k ∧ h.copies.els[i].host = g.key.host ∧ h.copies.els[i].zone.apex = g.key.apex ∧ s = ⟨h.copies.els[i].frm, h.copies.els[i].til⟩
  len : g.els.length ≤ k
theorem GrpOK.more {h : HistV} {k : Nat} {g : Grp} (hg : GrpOK h k g) : GrpOK h (k + 1) g :=
  ⟨hg.apart, fun s hs => by obtain ⟨i, hi, h1, r⟩ := hg.each s hs; exact ⟨i, hi, by omega, r⟩, Nat.le_succ_of_le hg.len⟩
theorem GrpOK.add {h : HistV} {k : Nat} {g : Grp} (hg : GrpOK h k g) (hk : k < h.copies.els.length) (hc : CopiesTo h h.copies.els.length) (b c : Nat) (h1 : h.copies.els[k].host = g.key.host) (h2 : h.copies.els[k].zone.apex = g.key.apex) :
    GrpOK h (k + 1) ⟨g.key, b, c, g.els ++ [⟨h.copies.els[k].frm, h.copies.els[k].til⟩]⟩ := by
  refine ⟨?_, fun s hs => ?_, by simp only [List.length_append, List.length_cons, List.length_nil]; have := hg.len; omega⟩
  · show (g.els ++ [_]).Pairwise ApartS
    rw [List.pairwise_append]
    refine ⟨hg.apart, .cons (fun _ h => by cases h) .nil, fun s hs t ht => ?_⟩
    rw [List.mem_singleton.1 ht]
    obtain ⟨i, hi, h3, h4, h5, rfl⟩ := hg.each s hs
    have := (hc k hk hk).2 i h3
    unfold ApartC at this
    unfold ApartS
    simp only
    rintro ⟨a1, a2⟩
    exact this ⟨h4.trans h1.symm, h5.trans h2.symm, a1, a2⟩
  · rcases List.mem_append.1 hs with hs | hs
    · obtain ⟨i, hi, h3, r⟩ := hg.each s hs
      exact ⟨i, hi, by omega, r⟩
    · rw [List.mem_singleton.1 hs]
      exact ⟨k, hk, by omega, h1, h2, rfl⟩
theorem GrpOK.one {h : HistV} {k : Nat} (hk : k < h.copies.els.length) (b c : Nat) : GrpOK h (k + 1) ⟨⟨h.copies.els[k].host, h.copies.els[k].zone.apex⟩, b, c, [⟨h.copies.els[k].frm, h.copies.els[k].til⟩]⟩ :=
  ⟨.cons (fun _ h => by cases h) .nil, fun s hs => by
    rw [List.mem_singleton.1 hs]
    exact ⟨k, hk, by omega, rfl, rfl, rfl⟩, by simp only [List.length_cons, List.length_nil]; omega⟩
theorem sorted_next {h : HistV} {k : Nat} {g : Grp} {ys : List SpanV} (hg : GrpOK h k g) (hc : CopiesTo h h.copies.els.length) (hs : SpansSorted g.els ys) {i : Nat} (h0 : 0 < i) (hi : i < ys.length) : ¬ ys[i].frm < (ys[i - 1]'(by omega)).til := fun hlt => by
  have hap : ys.Pairwise ApartS := (hs.perm.pairwise_iff fun {_ _} h => ApartS.symm h).2 hg.apart
  have h1 := List.pairwise_iff_getElem.1 hap (i - 1) i (by omega) hi (by omega)
  have h2 := List.pairwise_iff_getElem.1 hs.ord (i - 1) i (by omega) hi (by omega)
  obtain ⟨q, hq, _, _, _, h3⟩ := hg.each ys[i] (hs.perm.mem_iff.1 (List.getElem_mem hi))
  have h4 := (hc q hq hq).1.til
  rw [h3] at h1 h2 hlt
  unfold ApartS at h1
  simp only at h1 h2 hlt
  exact h1 ⟨by omega, hlt⟩
theorem nodup_lenN : ∀ {l l' : List Nat}, l.Nodup → (∀ x ∈ l, x ∈ l') → l.length ≤ l'.length
  | [], _, _, _ => by simp
  | x :: t, l', hn, hs => by
    obtain ⟨h1, h2⟩ := List.nodup_cons.1 hn
    have hx := hs x (List.mem_cons_self ..)
    have ih := nodup_lenN (l := t) (l' := l'.erase x) h2 fun y hy => by
      have hy' := hs y (List.mem_cons_of_mem _ hy)
      refine (List.mem_erase_of_ne fun e => ?_).2 hy'
      subst e; exact h1 hy
    rw [List.length_erase_of_mem hx] at ih
    have : 0 < l'.length := List.length_pos_of_mem hx
    rw [List.length_cons]
    omega
theorem nodup_lt {l : List Nat} {n : Nat} (hn : l.Nodup) (hl : ∀ x ∈ l, x < n) : l.length ≤ n := by
  have := nodup_lenN (l' := List.range n) hn fun x hx => List.mem_range.2 (hl x hx)
  simpa using this
theorem key_rw {a : PlaceV} {l : List Grp} (h : aFind a (gMap l) 0 = none) (z : Value) : aGet a (gMap l) = none ∧ aIdx a (gMap l) = l.length ∧ aTouch a z (gMap l) = gMap l ++ [(a, z)] := by
  unfold aGet aIdx aTouch
  rw [h, gMap_len]
  exact ⟨rfl, rfl, rfl⟩
theorem key_rw2 {a : PlaceV} {l : List Grp} {j : Nat} {v : Value} (h : aFind a (gMap l) 0 = some (j, v)) (z : Value) : aGet a (gMap l) = some v ∧ aIdx a (gMap l) = j ∧ aTouch a z (gMap l) = gMap l := by
  unfold aGet aIdx aTouch
  rw [h]
  exact ⟨rfl, rfl, rfl⟩
end Go.Proofs.YtepljgpikfeklaaGreatDoor
