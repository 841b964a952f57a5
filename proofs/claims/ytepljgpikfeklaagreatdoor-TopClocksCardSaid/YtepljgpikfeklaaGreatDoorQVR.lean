import Derived.Test.YtepljgpikfeklaaGreatDoorQVN
import Derived.Test.YtepljgpikfeklaaGreatDoorQZV
import Derived.Test.YtepljgpikfeklaaGreatDoorQZW
import Derived.Lib.ItoaLen
namespace Go.Proofs.YtepljgpikfeklaaGreatDoor
set_option linter.unusedVariables false
set_option linter.unusedSimpArgs false
open Go Go.RowKit
open Enc (enc)
set_option maxRecDepth 20000
set_option maxHeartbeats 4000000 in
theorem c_uniqueO (s : Slc CopyV) (hf : s.len ≤ 4000) {H : Hp} {w : World} (hs : Sat H w) (hg : s.Good H) : Calls Tryz.prog 68 #[s.v, .func (.func 69) #[] #[]] w (RetO w H (fun _ : Value => True) (fun v => v) (fun _ => H) (fun v => [.row v 9 1 (uniqC (apexesOf s.els)).length (encs (uniqC (apexesOf s.els)))])) := by
  have hlen := hg.len
  have hlim := hg.lim
  have hal : (apexesOf s.els).length = s.len := by unfold apexesOf; rw [List.length_map, hlen]
  refine T.enter (vs := [s.v, .func (.func 69) #[] #[]]) (H := H) Tryz.func68 rfl rfl rfl hs ?_
  repeat (any_goals (first | refine T.seq ?_ | refine T.region ?_ | refine TL.nil ?_ | refine N.next ?_ | refine T.block ?_ | (apply TL.x; rfl; rfl; (apply X.makeMap (fun a : Bytes => strV a); rfl); intro bm _) | (apply TL.val; rfl; rfl; (first | exact vpure | exact vread))))
  refine T.nilRow 9 1 ?_
  refine T.loop (G := Value × Nat) (fun g => [(1, .func (.func 69) #[] #[]), (5, .map (some bm)), (6, g.1), (11, s.v), (12, intV s.len), (13, intV g.2)]) (fun _ => H) (fun g => [.row g.1 9 1 (uniqUp (apexesOf s.els) g.2).length (encs (uniqUp (apexesOf s.els) g.2)), .any bm (mObj (fun a : Bytes => strV a) ((uniqUp (apexesOf s.els) g.2).map fun x => (x, Value.bool true)))]) (fun g => g.2 ≤ s.len) (fun g => s.len - g.2) (.slice none 0 0, 0) (Nat.zero_le _) (by (repeat (first | exact True.intro | refine ⟨rfl, ?_⟩ | refine Sub.int rfl (by omega) ?_))) rfl (by (repeat (first | exact List.Sublist.refl _ | exact List.nil_sublist _ | apply List.Sublist.cons_cons | apply List.Sublist.cons))) ?_
  rintro ⟨v, k⟩ hk
  simp only at hk ⊢
  by_cases hlt : k < s.len
  · have hkl : k < s.els.length := by omega
    have hrow := hg.row (k := k) hlt
    have hup := uniqUp_next (l := apexesOf s.els) (k := k) (by omega)
    rw [apexesOf_at hkl] at hup
    have hcl := uniqUp_len (apexesOf s.els) k
    obtain ⟨cs, hcs⟩ : ∃ cs, uniqUp (apexesOf s.els) k = cs := ⟨_, rfl⟩
    obtain ⟨x, hx⟩ : ∃ x, s.els[k]'hkl = x := ⟨_, rfl⟩
    rw [hcs, hx] at hup
    try rw [hx] at hrow
    rw [hcs] at hcl ⊢
    by_cases hm : x.zone.apex ∈ cs
    · have hp : putZ cs x.zone.apex = cs := if_pos hm
      rw [hp] at hup
      have hget : (aGet x.zone.apex (cs.map fun x => (x, Value.bool true))).getD (.bool false) = .bool true := (aGet_set x.zone.apex cs).trans (congrArg Value.bool ((decide_eq_decide.2 Iff.rfl).trans (decide_eq_true hm)))
      repeat (any_goals (first | refine T.seq ?_ | refine T.region ?_ | refine TL.nil ?_ | refine N.next ?_ | refine N.inBlock ?_ | refine N.exit_same ?_ | refine N.exit_then ?_ | refine T.ret ?_ | refine T.skip ?_ | refine T.exit ?_ | refine T.block ?_ | (apply T.cond_false; rfl) | (apply T.test; rfl; (exact isx); intro _; rotate_left; intro _; rotate_right) | (apply TL.val; rfl; rfl; (apply V.elem (j := k); (iterate 6 rfl); omega; exact hg.at_ (by omega))) | (apply TL.val; rfl; rfl; (apply V.load_H_row; rfl; rfl; rfl; exact hrow; rfl)) | (apply TL.x; rfl; rfl; (apply X.alloc (d := 8); rfl; rfl; rfl); intro b8 _) | (apply TL.x; rfl; rfl; (apply X.storeTo 0 (enc x); (iterate 10 rfl)); intro _ _) | (apply TL.call; (iterate 4 rfl); exact Tryz.call69; exact fun _ hs => c_apexOf x hs.sat) | (apply TL.val; rfl; rfl; (apply V.mlookup (mk := fun a : Bytes => strV a) x.zone.apex; rfl; rfl; rfl; exact keyS Tryz.underlying9; rfl; rfl; (exact lmem); exact hget)) | (apply TL.val; rfl; rfl; (first | exact vpure | exact vread))))
      all_goals (try contradiction)
      all_goals (try (exfalso; omega))
      refine N.round (v, k + 1) (by show k + 1 ≤ _; omega) (by show s.len - (k + 1) < s.len - k; omega) (by (repeat (first | exact True.intro | refine ⟨rfl, ?_⟩ | refine Sub.int rfl (by omega) ?_))) rfl ?_
      simp only [hup]
      (repeat (first | exact List.Sublist.refl _ | exact List.nil_sublist _ | apply List.Sublist.cons_cons | apply List.Sublist.cons))
    · have hp : putZ cs x.zone.apex = cs ++ [x.zone.apex] := if_neg hm
      rw [hp] at hup
      have hget : (aGet x.zone.apex (cs.map fun x => (x, Value.bool true))).getD (.bool false) = .bool false := (aGet_set x.zone.apex cs).trans (congrArg Value.bool ((decide_eq_decide.2 Iff.rfl).trans (decide_eq_false hm)))
      repeat (any_goals (first | refine T.seq ?_ | refine T.region ?_ | refine TL.nil ?_ | refine N.next ?_ | refine N.inBlock ?_ | refine N.exit_same ?_ | refine N.exit_then ?_ | refine T.ret ?_ | refine T.skip ?_ | refine T.exit ?_ | refine T.block ?_ | (apply T.cond_true; rfl) | (apply T.test; rfl; (exact isx); intro _; rotate_left; intro _; rotate_right) | (apply TL.val; rfl; rfl; (apply V.elem (j := k); (iterate 6 rfl); omega; exact hg.at_ (by omega))) | (apply TL.val; rfl; rfl; (apply V.load_H_row; rfl; rfl; rfl; exact hrow; rfl)) | (apply TL.x; rfl; rfl; (apply X.alloc (d := 8); rfl; rfl; rfl); intro b8 _) | (apply TL.x; rfl; rfl; (apply X.storeTo 0 (enc x); (iterate 10 rfl)); intro _ _) | (apply TL.call; (iterate 4 rfl); exact Tryz.call69; exact fun _ hs => c_apexOf x hs.sat) | (apply TL.val; rfl; rfl; (apply V.mlookup (mk := fun a : Bytes => strV a) x.zone.apex; rfl; rfl; rfl; exact keyS Tryz.underlying9; rfl; rfl; (exact lmem); exact hget)) | (apply TL.x; rfl; rfl; (apply X.mput (mk := fun a : Bytes => strV a) 2 x.zone.apex; rfl; rfl; exact keyS Tryz.underlying9; (iterate 4 rfl); exact mput_toZ (aPut_set hm) rfl); intro _ _) | (apply TL.x; rfl; rfl; (apply X.buildSlice1 (d := 28); (iterate 8 rfl)); intro b28 _) | (apply TL.x; rfl; rfl; (apply X.append1 2; (iterate 9 rfl); exact List.Mem.head _; rfl; rfl; rfl; (refine Nat.le_trans (Nat.mul_le_mul_right _ (show _ ≤ 20001 by omega)) ?_; decide); omega); intro pa _) | (apply TL.val; rfl; rfl; (first | exact vpure | exact vread))))
      all_goals (try contradiction)
      all_goals (try (exfalso; omega))
      refine N.round (.slice (some ⟨pa.1, 0, none⟩) (cs.length + 1) pa.2, k + 1) (by show k + 1 ≤ _; omega) (by show s.len - (k + 1) < s.len - k; omega) (by (repeat (first | exact True.intro | refine ⟨rfl, ?_⟩ | refine Sub.int rfl (by omega) ?_))) rfl ?_
      simp only [hup, List.length_append, List.length_cons, List.length_nil, Nat.zero_add, encs_snoc]
      (repeat (first | exact List.Sublist.refl _ | exact List.nil_sublist _ | apply List.Sublist.cons_cons | apply List.Sublist.cons))
  · have hke : k = s.len := by omega
    subst hke
    have hla : uniqUp (apexesOf s.els) s.len = uniqC (apexesOf s.els) := by unfold uniqUp uniqC; rw [List.take_of_length_le (by omega)]
    rw [hla]
    repeat (any_goals (first | refine T.seq ?_ | refine T.region ?_ | refine TL.nil ?_ | refine N.next ?_ | refine N.exit_same ?_ | refine N.exit_then ?_ | refine T.ret ?_ | refine T.skip ?_ | refine T.exit ?_ | refine T.block ?_ | (apply T.test; rfl; (exact isx); intro _; rotate_left; intro _; rotate_right) | (apply TL.val; rfl; rfl; (first | exact vpure | exact vread)) | (apply TL.x; rfl; rfl; (first | exact xgrow | exact xput); intro _ _)))
    all_goals (try (exfalso; omega))
    exact N.ret1 rfl (by (exact rvx)) fun w hst => ⟨v, trivial, rfl, hst.sub (List.Sublist.cons_cons _ (List.nil_sublist _))⟩
theorem uniqC_mem {l : List Bytes} {x : Bytes} : x ∈ uniqC l ↔ x ∈ l := by
  unfold uniqC
  rw [mem_foldZ]; simp
theorem uniqC_names {h : HistV} (hh : HistOK h) : ∀ x ∈ uniqC (apexesOf h.copies.els), nameOK x = true := fun x hx => by
  rw [uniqC_mem] at hx
  unfold apexesOf at hx
  obtain ⟨c, hc, rfl⟩ := List.mem_map.1 hx
  obtain ⟨j, hj, rfl⟩ := List.mem_iff_getElem.1 hc
  exact (hh.each j hj hj).1.zone.one.apexOK
theorem uniq_few2 {h : HistV} (hh : HistOK h) : (uniqC (apexesOf h.copies.els)).length ≤ 500 := Nat.le_trans (uniq_few _) hh.apexes
set_option maxHeartbeats 4000000 in
theorem c_Zones (h : HistV) (hh : HistOK h) {H : Hp} {w : World} (hs : Sat H w) (hR : Rules H) (hgd : Enc.good H h) : Calls Tryz.prog 71 #[.agg (enc h).toArray] w (RetF w H (fun p : Hp × Slc Bytes => p.2.els.Perm (uniqC (apexesOf h.copies.els)) ∧ p.2.Good p.1) (fun p => .tuple #[p.2.v, intV 0]) (fun p => p.1)) := by
  have hfew := hh.few
  have hl2 := hgd.2.1.len
  have hu := uniq_few2 hh
  refine T.enter (vs := [.agg (enc h).toArray]) (H := H) Tryz.func71 rfl rfl rfl hs ?_
  repeat (any_goals (first | refine T.seq ?_ | refine T.region ?_ | refine TL.nil ?_ | refine N.next ?_ | refine T.ret ?_ | refine T.skip ?_ | (apply T.cond_false; rfl) | (apply TL.x; rfl; rfl; (apply X.box (d := 1); rfl; rfl; rfl); intro b1 _; apply TL.frzZ 0; rfl; intro H1 z1 hle1; have hgd := Enc.mono hle1 hgd; have hR := Rules.mono hle1 hR) | (apply TL.val; rfl; rfl; (apply V.load_H; rfl; rfl; rfl; first | exact z1 0 _ rfl | exact z1 1 _ rfl | exact z1 2 _ rfl | exact z1 3 _ rfl | exact z1 4 _ rfl | exact z1 5 _ rfl | exact z1 6 _ rfl | exact z1 7 _ rfl | exact z1 8 _ rfl)) | (apply TL.val; rfl; rfl; (apply V.load_H_row; rfl; rfl; rfl; exact z1; rfl)) | (apply TL.callE (f := 32) [.agg (enc h).toArray] Tryz.call32; (iterate 4 rfl); (exact fun _ hs => c_historyValid h hh hs.sat hR hgd)) | (apply TL.x; rfl; rfl; (apply X.callO0 (f := 68) Tryz.call68; rfl; rfl; exact (fun _ hs => c_uniqueO h.copies (by omega) hs.sat hgd.2.1)); intro v _) | (apply TL.x; rfl; rfl; (apply X.callB [v, .func (.func 125) #[] #[]] (f := 124); (iterate 4 rfl); exact Tryz.call124; exact fun _ hs => c_sortZones (uniqC_names hh) hs 0 rfl (by omega)); intro ys hys; apply TL.frzRow 0 (els := ys); rfl; rfl; rfl; (exact fun x hx => Nat.le_trans (name_len60 (uniqC_names hh x (hys.mem_iff.1 hx))) (by decide)); intro H2 sl e1 e2 e3 hle2) | (apply TL.val; rfl; rfl; (first | exact vpure | exact vread))))
  all_goals (try contradiction)
  exact N.ret2 rfl (by (exact rvx)) (by (exact rvx)) fun w hst => ⟨(H2, sl), ⟨by rw [e2]; exact hys, e3⟩, by show _ = Ending.returned (.tuple #[sl.v, intV 0]); rw [e1], hst.fresh⟩
def NormIn (s : SpanV) : Prop := 0 ≤ s.frm ∧ s.frm ≤ s.til ∧ s.til ≤ 20000000
set_option maxHeartbeats 4000000 in
theorem c_Normal (s : Slc SpanV) (hf : s.len ≤ 20000) (hok : ∀ x ∈ s.els, NormIn x) {H : Hp} {w : World} (hs : Sat H w) (hg : s.Good H) : Calls Tryz.prog 131 #[s.v] w (RetF w H (fun p : Hp × Slc SpanV => (∃ ys, SpansSorted (s.els.filter fullS) ys ∧ p.2.els = uniteC ys) ∧ p.2.Good p.1) (fun p => .tuple #[p.2.v, intV 0]) (fun p => p.1)) := by
  have hlen := hg.len
  have hlim := hg.lim
  have hfl := List.length_filter_le fullS s.els
  refine T.enter (vs := [s.v]) (H := H) Tryz.func131 rfl rfl rfl hs ?_
  repeat (any_goals (first | refine T.seq ?_ | refine T.region ?_ | refine TL.nil ?_ | refine N.next ?_ | refine N.ret_then ?_ | refine T.ret ?_ | refine T.skip ?_ | refine T.block ?_ | (apply T.test; rfl; (exact isx); intro _; rotate_left; intro _; rotate_right) | (apply TL.val; rfl; rfl; (first | exact vpure | exact vread))))
  all_goals (try (exfalso; omega))
  refine T.loop (G := Nat) (fun k => [(0, s.v), (10, s.v), (11, intV s.len), (12, intV k)]) (fun _ => H) (fun _ => []) (fun k => k ≤ s.len) (fun k => s.len - k) 0 (Nat.zero_le _) (by (repeat (first | exact True.intro | refine ⟨rfl, ?_⟩ | refine Sub.int rfl (by omega) ?_))) rfl (by (first | exact List.Sublist.refl _ | exact List.nil_sublist _ | exact List.Sublist.cons _ (List.Sublist.refl _) | exact List.Sublist.cons _ (List.Sublist.cons _ (List.Sublist.refl _)))) ?_
  intro k hk
  by_cases hlt : k < s.len
  · have hkl : k < s.els.length := by omega
    have hrow := hg.row (k := k) hlt
    have hx1 := hok _ (List.getElem_mem hkl)
    obtain ⟨x, hx⟩ : ∃ x, s.els[k]'hkl = x := ⟨_, rfl⟩
    rw [hx] at hx1
    try rw [hx] at hrow
    obtain ⟨x1, x2, x3⟩ := hx1
    repeat (any_goals (first | refine T.seq ?_ | refine T.region ?_ | refine TL.nil ?_ | refine N.next ?_ | refine N.inBlock ?_ | refine N.exit_same ?_ | refine N.exit_then ?_ | refine N.ret_then ?_ | refine N.ret_block ?_ | refine T.ret ?_ | refine T.skip ?_ | refine T.exit ?_ | refine T.block ?_ | (apply T.cond_true; rfl) | (apply T.test; rfl; (exact isx); intro _; rotate_left; intro _; rotate_right) | (apply TL.skip; rfl; rfl; rfl) | (apply TL.val; rfl; rfl; (apply V.elem (j := k); (iterate 6 rfl); omega; exact hg.at_ (by omega))) | (apply TL.val; rfl; rfl; (apply V.load_H_row; rfl; rfl; rfl; exact hrow; rfl)) | (apply TL.x; rfl; rfl; (apply X.alloc (d := 5); rfl; rfl; rfl); intro b5 _) | (apply TL.x; rfl; rfl; (apply X.storeTo 0 (enc x); (iterate 10 rfl)); intro _ _) | (apply TL.val; rfl; rfl; (first | exact vpure | exact vread)) | (apply TL.guard; rfl; rfl; rfl; (exact isx); intro _; rotate_left; intro _; rotate_right)))
    all_goals (try (exfalso; omega))
    all_goals first
      | exact N.round (k + 1) (by omega) (by show s.len - (k + 1) < s.len - k; omega) (by (repeat (first | exact True.intro | refine ⟨rfl, ?_⟩ | refine Sub.int rfl (by omega) ?_))) rfl (List.nil_sublist _)
      | trace_state
  · repeat (any_goals (first | refine T.seq ?_ | refine T.region ?_ | refine TL.nil ?_ | refine N.next ?_ | refine N.inBlock ?_ | refine N.exit_same ?_ | refine N.exit_then ?_ | refine N.ret_then ?_ | refine N.ret_block ?_ | refine T.ret ?_ | refine T.skip ?_ | refine T.exit ?_ | refine T.block ?_ | (apply T.cond_true; rfl) | (apply T.test; rfl; (exact isx); intro _; rotate_left; intro _; rotate_right) | (apply TL.skip; rfl; rfl; rfl) | (apply TL.x; rfl; rfl; (apply X.callO0 (f := 170) Tryz.call170; rfl; rfl; exact (fun _ hs => c_sift s hf hs.sat hg)); intro v _) | (apply TL.x; rfl; rfl; (apply X.callB [v, .func (.func 172) #[] #[]] (f := 65); (iterate 4 rfl); exact Tryz.call65; exact fun _ hs => c_sortN hs 0 rfl (by omega)); intro ys hys; apply TL.frzRow 0 (els := ys); rfl; rfl; rfl; (exact fun x hx => hg.els x (List.mem_filter.1 (hys.perm.mem_iff.1 hx)).1); intro H2 sl e1 e2 e3 hle2; rw [← e1]; have hsl : sl.len ≤ 20000 := by (have h1 := e3.len; have h2 := hys.perm.length_eq; rw [e2] at h1; omega)) | (apply TL.x; rfl; rfl; (apply X.callFE (f := 173) [sl.v] Tryz.call173; rfl; rfl; rfl; exact (fun _ hs => c_united sl hsl hs.sat e3)); intro p hp) | (apply TL.val; rfl; rfl; (first | exact vpure | exact vread)) | (apply TL.x; rfl; rfl; (first | exact xgrow | exact xput); intro _ _) | (apply TL.guard; rfl; rfl; rfl; (exact isx); intro _; rotate_left; intro _; rotate_right)))
    all_goals (try contradiction)
    all_goals (try (exfalso; omega))
    exact N.ret2 rfl (by (exact rvx)) (by (exact rvx)) fun w hst => ⟨p, ⟨⟨ys, hys, by rw [hp.1.1, e2]⟩, hp.1.2⟩, rfl, hst.fresh⟩
end Go.Proofs.YtepljgpikfeklaaGreatDoor
namespace Go.Proofs.YtepljgpikfeklaaGreatDoor
set_option linter.unusedVariables false
set_option linter.unusedSimpArgs false
open Go Go.RowKit
set_option maxRecDepth 20000
def fldB (z : Bytes) : Bytes := z ++ [47]
def numF (n : Int) : Bytes := fldB (Lib.itoa n)
def datumT (d : Datum) : Bytes := fldB d.text ++ numF d.n ++ numF d.m
def sigT (g : Sig) : Bytes := fldB g.zone ++ numF g.key ++ numF g.alg ++ numF g.frm ++ numF g.til ++ fldB (Lib.decDigits g.sum.toNat)
def headT (s : SignedC) : Bytes := fldB s.set.name ++ numF s.set.typ ++ numF s.set.life ++ numF s.set.data.length
def textC (s : SignedC) : Bytes := headT s ++ s.set.data.flatMap datumT ++ s.sigs.flatMap sigT
theorem numF_len {n : Int} (hn : I64 n) : (numF n).length ≤ 22 := by
  unfold numF fldB
  have := Lib.itoa_length_le n hn.1 hn.2
  rw [List.length_append, List.length_cons, List.length_nil]
  omega
structure TextIn (s : SignedC) : Prop where
  name : s.set.name.length ≤ 1000
  data : s.set.data.length ≤ 1000
  text : ∀ d ∈ s.set.data, d.text.length ≤ 1000
  sigs : s.sigs.length ≤ 1000
  zone : ∀ g ∈ s.sigs, g.zone.length ≤ 1000
theorem flat_len {α : Type} {f : α → Bytes} {c : Nat} : ∀ {l : List α}, (∀ x ∈ l, (f x).length ≤ c) → (l.flatMap f).length ≤ l.length * c
  | [], _ => by simp
  | x :: t, h => by
    have h1 := h x (List.mem_cons_self ..)
    have h2 := flat_len (l := t) fun y hy => h y (List.mem_cons_of_mem _ hy)
    rw [List.flatMap_cons, List.length_append, List.length_cons, Nat.add_mul]
    omega
theorem flat_next {α : Type} {f : α → Bytes} {l : List α} {k : Nat} (hk : k < l.length) : (l.take (k + 1)).flatMap f = (l.take k).flatMap f ++ f l[k] := by
  rw [List.take_succ_eq_append_getElem hk, List.flatMap_append, List.flatMap_cons, List.flatMap_nil, List.append_nil]
section
variable {P : Program} {n : FK} {w0 w : World} {H0 H : Hp} {Q : Exit → Act → World → Prop} {env : List (Nat × Value)} {L : List Loc} {ops rest : List Oper}
theorem TL.nilRow (e : TypeId) (size : Nat) (h : TL P n w0 H0 ops Q rest env H (.row (.slice none 0 0) e size 0 [] :: L)) : TL P n w0 H0 ops Q rest env H L :=
  ⟨fun a w hf hs => h.out a w hf (hs.nilRow e size)⟩
end
section
variable {w0 w : World} {H0 H : Hp} {b : Nat} {LL : Value → Value → Value → Bytes → List Loc} {i j : Nat}
set_option maxHeartbeats 1000000 in
theorem c_word (B : BL b LL i j) (z : Bytes) {p v : Value} {l : Bytes} (hp : p = .pointer none ∨ p = bptr b) (hb : l.length + z.length ≤ 99999999) (hs : St w0 H0 H (LL p v v l) w) :
    CallsIn (FW none) 0 Tryz.prog 76 [strV z, bptr b].toArray w (fun e w' => ∃ v' : Value, True ∧ e = .returned (.tuple #[]) ∧ St w0 H0 H (LL (bptr b) v' v' (l ++ fldB z)) w') := by
  refine T.enterIn (vs := [strV z, bptr b]) Tryz.func76 rfl rfl rfl hs ?_
  repeat (any_goals (first | refine T.seq ?_ | refine T.region ?_ | refine TL.nil ?_ | refine N.next ?_ | (apply TL.x; rfl; rfl; (apply X.callB [bptr b, strV z] (f := 77); (iterate 4 rfl); exact Tryz.call77; exact fun _ hs => c_WriteString B z hp (by omega) hs); intro v1 _) | (apply TL.x; rfl; rfl; (apply X.callB [bptr b, .int .u8 ((47 : UInt8).toNat : Int)] (f := 78); (iterate 4 rfl); exact Tryz.call78; exact fun _ hs => c_WriteByte B 47 (.inr rfl) (by rw [List.length_append]; omega) hs); intro v2 _) | (apply TL.val; rfl; rfl; (first | exact vpure | exact vread))))
  all_goals (try contradiction)
  refine N.end0 rfl fun w hs => ⟨v2, trivial, rfl, ?_⟩
  rw [List.append_assoc] at hs
  exact hs
set_option maxHeartbeats 1000000 in
theorem c_number (B : BL b LL i j) (n : Int) (hn : I64 n) {b4 : Nat} (z4 : H.cells b4 0 [.func (.func 76) #[] #[bptr b]]) (hT : Pow10 H) {p v : Value} {l : Bytes} (hp : p = .pointer none ∨ p = bptr b) (hb : l.length ≤ 90000000) (hs : St w0 H0 H (LL p v v l) w) :
    CallsIn (FW none) 0 Tryz.prog 79 [intV n, .pointer (some ⟨b4, 0, none⟩)].toArray w (fun e w' => ∃ v' : Value, True ∧ e = .returned (.tuple #[]) ∧ St w0 H0 H (LL (bptr b) v' v' (l ++ numF n)) w') := by
  have hil := Lib.itoa_length_le n hn.1 hn.2
  refine T.enterIn (vs := [intV n, .pointer (some ⟨b4, 0, none⟩)]) Tryz.func79 rfl rfl rfl hs ?_
  repeat (any_goals (first | (apply T.regionD wide; rfl) | (apply GT.read; (iterate 4 rfl); (apply V.load_H; rfl; rfl; rfl; exact z4 0 _ rfl); decide +kernel) | (apply GT.callE (f := 80) [intV n] Tryz.call80; (iterate 6 rfl); (exact fun _ hs => c_Itoa n hn hs.sat hT); decide +kernel) | (apply GS.eff; rfl; decide +kernel; rfl; (apply X.callB [strV (Lib.itoa n), bptr b] (f := 76); (iterate 4 rfl); exact Tryz.call76; exact fun _ hs => c_word B (Lib.itoa n) hp (by omega) hs); intro _ _) | (apply GT.pure; (iterate 4 rfl); (first | exact vpure); decide +kernel) | (apply GT.done; decide +kernel; apply N.ofQ) | (apply GT.fork1; decide +kernel)))
  all_goals (try contradiction)
  all_goals first
    | exact N.end0 rfl fun w hs => ⟨_, trivial, rfl, hs⟩
    | trace_state
def slashed (n : Int) : Bytes := 47 :: Lib.itoa n
theorem slashed_len {n : Int} (hn : I64 n) : (slashed n).length ≤ 22 := by
  have := Lib.itoa_length_le n hn.1 hn.2
  unfold slashed
  rw [List.length_cons]; omega
theorem slashed_all (z : Bytes) : ∀ (l : List Int), z ++ l.flatMap slashed ++ [47] = fldB z ++ l.flatMap numF
  | [] => by simp [fldB]
  | n :: t => by
    have ih := slashed_all (Lib.itoa n) t
    rw [List.flatMap_cons, List.flatMap_cons]
    have e1 : z ++ (slashed n ++ t.flatMap slashed) ++ [47] = z ++ [47] ++ (Lib.itoa n ++ t.flatMap slashed ++ [47]) := by simp [slashed]
    rw [e1, ih]
    simp [fldB, numF]
set_option maxHeartbeats 2000000 in
theorem c_put (B : BL b LL i j) (z : Bytes) (ns : Slc Int) (hns : ns.len ≤ 10) (hg : ns.Good H) (hT : Pow10 H) {p v : Value} {l : Bytes} (hp : p = .pointer none ∨ p = bptr b) (hb : l.length + z.length ≤ 90000000) (hs : St w0 H0 H (LL p v v l) w) :
    CallsIn (FW none) 0 Tryz.prog 169 [strV z, ns.v, bptr b].toArray w (fun e w' => ∃ v' : Value, True ∧ e = .returned (.tuple #[]) ∧ St w0 H0 H (LL (bptr b) v' v' (l ++ (fldB z ++ ns.els.flatMap numF))) w') := by
  have hlen := hg.len
  have hlim := hg.lim
  have hlk : ∀ k, ((ns.els.take k).flatMap slashed).length ≤ 220 := fun k => by
    have h1 := flat_len (f := slashed) (c := 22) (l := ns.els.take k) fun x hx => slashed_len (hg.els x (List.mem_of_mem_take hx))
    have h2 : (ns.els.take k).length ≤ 10 := by rw [List.length_take]; omega
    omega
  refine T.enterIn (vs := [strV z, ns.v, bptr b]) Tryz.func169 rfl rfl rfl hs ?_
  repeat (any_goals (first | refine T.seq ?_ | refine T.region ?_ | refine TL.nil ?_ | refine N.next ?_ | refine T.block ?_ | (apply TL.x; rfl; rfl; (apply X.callB [bptr b, strV z] (f := 77); (iterate 4 rfl); exact Tryz.call77; exact fun _ hs => c_WriteString B z hp (by omega) hs); intro v1 _) | (apply TL.val; rfl; rfl; (first | exact vpure | exact vread))))
  refine T.loop (G := Value × Nat) (fun g => [(2, bptr b), (9, ns.v), (10, intV ns.len), (11, intV g.2)]) (fun _ => H) (fun g => LL (bptr b) g.1 g.1 (l ++ z ++ (ns.els.take g.2).flatMap slashed)) (fun g => g.2 ≤ ns.len) (fun g => ns.len - g.2) (v1, 0) (Nat.zero_le _) (by (repeat (first | exact True.intro | refine ⟨rfl, ?_⟩ | refine Sub.int rfl (by omega) ?_))) rfl (by rw [List.take_zero, List.flatMap_nil, List.append_nil]; exact List.Sublist.refl _) ?_
  rintro ⟨v2, k⟩ hk
  simp only at hk ⊢
  have hl1 := hlk k
  by_cases hlt : k < ns.len
  · have hkl : k < ns.els.length := by omega
    have hrow := hg.cell (k := k) (j := 0) hlt (v := intV ns.els[k]) rfl
    have hi64 : I64 ns.els[k] := hg.els _ (List.getElem_mem hkl)
    have hnx := flat_next (f := slashed) hkl
    obtain ⟨x, hx⟩ : ∃ x, ns.els[k]'hkl = x := ⟨_, rfl⟩
    rw [hx] at hrow hi64 hnx
    have hxl := Lib.itoa_length_le x hi64.1 hi64.2
    repeat (any_goals (first | refine T.seq ?_ | refine T.region ?_ | refine TL.nil ?_ | refine N.next ?_ | refine N.inBlock ?_ | refine N.exit_same ?_ | refine N.exit_then ?_ | refine T.skip ?_ | refine T.exit ?_ | refine T.block ?_ | (apply T.test; rfl; (exact isx); intro _; rotate_left; intro _; rotate_right) | (apply TL.val; rfl; rfl; (apply V.elem (j := k); (iterate 6 rfl); omega; exact hg.at_ (by omega))) | (apply TL.val; rfl; rfl; (apply V.load_H; rfl; rfl; rfl; exact hrow)) | (apply TL.x; rfl; rfl; (apply X.callB [bptr b, .int .u8 ((47 : UInt8).toNat : Int)] (f := 78); (iterate 4 rfl); exact Tryz.call78; exact fun _ hs => c_WriteByte B 47 (.inr rfl) (by rw [List.length_append, List.length_append]; omega) hs); intro v3 _) | (apply TL.callE (f := 80) [intV x] Tryz.call80; (iterate 4 rfl); (exact fun _ hs => c_Itoa x hi64 hs.sat hT)) | (apply TL.x; rfl; rfl; (apply X.callB [bptr b, strV (Lib.itoa x)] (f := 77); (iterate 4 rfl); exact Tryz.call77; exact fun _ hs => c_WriteString B (Lib.itoa x) (.inr rfl) (by rw [List.length_append, List.length_append, List.length_append, List.length_cons, List.length_nil]; omega) hs); intro v4 _) | (apply TL.val; rfl; rfl; (first | exact vpure | exact vread))))
    all_goals (try contradiction)
    all_goals (try (exfalso; omega))
    refine N.round (v4, k + 1) (by show k + 1 ≤ _; omega) (by show ns.len - (k + 1) < ns.len - k; omega) (by (repeat (first | exact True.intro | refine ⟨rfl, ?_⟩ | refine Sub.int rfl (by omega) ?_))) rfl ?_
    have e : l ++ z ++ (ns.els.take (k + 1)).flatMap slashed = l ++ z ++ (ns.els.take k).flatMap slashed ++ [47] ++ Lib.itoa x := by
      rw [hnx]; simp [slashed]
    simp only [e]
    exact List.Sublist.refl _
  · have hke : k = ns.len := by omega
    subst hke
    have hall : ns.els.take ns.len = ns.els := List.take_of_length_le (by omega)
    rw [hall] at hl1 ⊢
    repeat (any_goals (first | refine T.seq ?_ | refine T.region ?_ | refine TL.nil ?_ | refine N.next ?_ | refine N.exit_same ?_ | refine N.exit_then ?_ | refine T.skip ?_ | refine T.exit ?_ | refine T.block ?_ | (apply T.test; rfl; (exact isx); intro _; rotate_left; intro _; rotate_right) | (apply TL.x; rfl; rfl; (apply X.callB [bptr b, .int .u8 ((47 : UInt8).toNat : Int)] (f := 78); (iterate 4 rfl); exact Tryz.call78; exact fun _ hs => c_WriteByte B 47 (.inr rfl) (by rw [List.length_append, List.length_append]; omega) hs); intro v3 _) | (apply TL.val; rfl; rfl; (first | exact vpure | exact vread))))
    all_goals (try contradiction)
    all_goals (try (exfalso; omega))
    refine N.end0 rfl fun w hs => ⟨v3, trivial, rfl, ?_⟩
    rw [← slashed_all]
    simpa using hs
end
end Go.Proofs.YtepljgpikfeklaaGreatDoor
