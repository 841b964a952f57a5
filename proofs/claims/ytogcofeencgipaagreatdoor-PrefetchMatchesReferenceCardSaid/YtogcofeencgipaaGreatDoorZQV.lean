/- Walks: the rule for a referral. -/
import Derived.Test.YtogcofeencgipaaGreatDoorZQH
import Derived.Test.YtogcofeencgipaaGreatDoorZTMap
namespace Go.Proofs.YtogcofeencgipaaGreatDoor
set_option linter.unusedVariables false
set_option linter.unusedSimpArgs false
open Go Go.RowKit
open Enc (enc)
set_option maxRecDepth 20000
theorem aPut_old {κ : Type} [DecidableEq κ] {a : κ} {l : List κ} (h : a ∈ l) : aPut a (.bool true) (l.map fun x => (x, Value.bool true)) = l.map fun x => (x, Value.bool true) := by
  unfold aPut
  cases hf : aFind a (l.map fun x => (x, Value.bool true)) 0 with
  | none =>
    rw [aFind_none] at hf
    exact absurd rfl (hf (a, .bool true) (List.mem_map.2 ⟨a, h, rfl⟩))
  | some p =>
    obtain ⟨j, v⟩ := p
    have h2 := (aFind_some hf).2
    rw [Nat.sub_zero] at h2
    obtain ⟨x, hx, he⟩ := List.mem_map.1 (List.mem_of_getElem? h2)
    simp only [Prod.mk.injEq] at he
    obtain ⟨rfl, rfl⟩ := he
    obtain ⟨hj, e⟩ := List.getElem?_eq_some_iff.1 h2
    show (l.map _).set j _ = _
    rw [← e, List.set_getElem_self]
section
variable {P : Program} {n : FK} {w0 w w' : World} {H0 H H' : Hp} {env : List (Nat × Value)} {L : List Loc} {κ : Type} [DecidableEq κ] {mk : κ → Value} {kt : TypeId} {kd : TypeDesc}
theorem V.mlookupHK [Tys P] {t e : TypeId} {x y : Operand} {b : Nat} {k ke : TyK} {l : List (κ × Value)} {c : Value} (a : κ) (hk : tyk P t = some k) (hd : k.desc = .map kt e) (hke : tyk P e = some ke) (K : KeyK P kt kd mk) (hx : ev env x = some (.map (some b))) (hy : ev env y = some (mk a))
    (hm : H b = some (mObj mk l)) (hc : (aGet a l).getD ke.zero = c) : V P n (St w0 H0 H L) env (.lookup t x y false) c :=
  ⟨fun o a' w ho hf hs => by
    obtain ⟨d, hd1, hd2⟩ := (tyk_ok hk).und
    rw [hd] at hd2
    simp only [TyD.fits] at hd2
    subst hd2
    have := run_mlookup K hd1 a ((tyk_ok hke).zeroRun w) (hs.sat _ _ hm)
    unfold execOp
    rw [ho]
    simp only [hf.ev hx, hf.ev hy, Sem.run_bind, this, hc]
    rfl⟩
end
def putS (l : List Bytes) (x : Bytes) : List Bytes := if x ∈ l then l else l ++ [x]
theorem aPut_putS {l : List Bytes} {x : Bytes} : aPut x (.bool true) (l.map fun x => (x, Value.bool true)) = (putS l x).map fun x => (x, Value.bool true) := by
  unfold putS
  split
  · rename_i h; exact aPut_old h
  · rename_i h; exact aPut_set h
theorem mem_putS {l : List Bytes} {x y : Bytes} : y ∈ putS l x ↔ y ∈ l ∨ y = x := by
  unfold putS
  split
  · rename_i h
    exact ⟨.inl, fun h2 => h2.elim id (fun e => e ▸ h)⟩
  · simp
/-- The hosts of a referral: the texts of the first server set of its cut. -/
def isServer (cut : Bytes) (s : SignedC) : Bool := decide (s.set.name = cut) && decide (s.set.typ = 2)
def hostsR (a : AnswerC) : List Bytes := match a.sets.find? (isServer a.cut) with
  | some s => s.set.data.map Datum.text
  | none => []
def refR (a : AnswerC) (s : SetC) : Bool := if s.typ = 2 ∨ s.typ = 6 ∨ s.typ = 8 then decide (s.name = a.cut) else decide (s.typ = 1) && ((underC s.name a.cut).1 && decide (s.name ∈ hostsR a))
def referR (zone : Bytes) (q : Question) (a : AnswerC) : SetC → Bool := if belowV a.cut zone = true ∧ (underC q.name a.cut).1 = true then refR a else noneR
theorem c_ref2 (a : Answer) (x : RSet) {b5 b7 bm : Nat} {hl : List Bytes} (H : Hp) (w : World) (hs : Sat H w) (ha : Enc.good H a) (hx : Enc.good H x) (z5 : H.cells b5 0 (enc a)) (z7 : H.cells b7 0 [.map (some bm)]) (zm : H bm = some (mObj strV (hl.map fun x => (x, Value.bool true)))) (hh : ∀ y, y ∈ hl ↔ y ∈ hostsR a.c) : Calls Tryz.prog 220 #[.agg (enc x).toArray, .pointer (some ⟨b5, 0, none⟩), .pointer (some ⟨b7, 0, none⟩)] w (Ret w (.bool (refR a.c x.c))) := by
  have hmem : (aGet x.name (hl.map fun x => (x, Value.bool true))).getD (.bool false) = .bool (decide (x.name ∈ hostsR a.c)) := by
    rw [aGet_set]; congr 1; exact decide_eq_decide.2 (hh _)
  refine T.enter (vs := [.agg (enc x).toArray, .pointer (some ⟨b5, 0, none⟩), .pointer (some ⟨b7, 0, none⟩)]) (H := H) Tryz.func220 rfl rfl rfl hs ?_
  repeat (any_goals (first | refine T.seq ?_ | refine T.region ?_ | refine TL.nil ?_ | refine N.next ?_ | refine N.inBlock ?_ | refine N.exit_same ?_ | refine N.exit_then ?_ | refine N.ret_then ?_ | refine N.ret_block ?_ | (apply N.exit_other; rfl) | refine T.ret ?_ | refine T.skip ?_ | refine T.exit ?_ | refine T.block ?_ | (apply T.cond_true; rfl) | (apply T.cond_false; rfl) | (apply T.test; rfl; (with_reducible (first | exact Is.ndec | exact Is.dec | exact Is.not | ((fail_if_success exact Is.litT); (fail_if_success exact Is.litF); exact Is.base))); intro _; rotate_left; intro _; rotate_right) | (apply TL.skip; rfl; rfl; rfl) | (apply TL.skip_none; rfl; rfl) | (apply TL.val; rfl; rfl; (apply V.load_H; rfl; rfl; rfl; first | exact z5 2 _ rfl | exact z7 0 _ rfl)) | (apply TL.callE (f := 141) [strV x.name, strV a.cut] Tryz.call141; rfl; rfl; rfl; rfl; (exact fun _ hs => c_vunder x.name a.cut _ _ hs.sat hx.1 ha.2.2)) | (apply TL.val; rfl; rfl; (apply V.mlookupHK x.name; rfl; rfl; rfl; exact keyS Tryz.underlying9; rfl; rfl; exact zm; exact hmem)) | (apply TL.val; rfl; rfl; (first | exact vpure | exact vread)) | (apply TL.x; rfl; rfl; (first | exact xgrow | exact xput); intro _ _) | (apply TL.guard; rfl; rfl; rfl; (with_reducible (first | exact Is.ndec | exact Is.dec | exact Is.not | ((fail_if_success exact Is.litT); (fail_if_success exact Is.litF); exact Is.base))); intro _; rotate_left; intro _; rotate_right)))
  all_goals (try (first | (apply N.ret_bool; rfl; (exact rvx)) | (apply N.ret_int; rfl; (exact rvx)) | (apply N.ret_val; rfl; (exact rvx))))
  all_goals (show _ = (if x.typ = 2 ∨ x.typ = 6 ∨ x.typ = 8 then decide (x.name = a.cut) else decide (x.typ = 1) && ((underC x.name a.cut).1 && decide (x.name ∈ hostsR a.c))))
  all_goals (try simp_all)
  all_goals (try (trace_state; sorry))
end Go.Proofs.YtogcofeencgipaaGreatDoor
namespace Go.Proofs.YtogcofeencgipaaGreatDoor
set_option linter.unusedVariables false
set_option linter.unusedSimpArgs false
open Go Go.RowKit
open Enc (enc)
set_option maxRecDepth 20000
theorem mput_toQ {κ : Type} [DecidableEq κ] {L L' : List Loc} {i b : Nat} {mk : κ → Value} {a : κ} {v : Value} {l l' : List (κ × Value)} (h : aPut a v l = l') (hL : L.set i (.any b (mObj mk l')) = L') : L.set i (.any b (mObj mk (aPut a v l))) = L' := by rw [h]; exact hL
theorem mem_putAll : ∀ {l acc : List Bytes} {y : Bytes}, y ∈ l.foldl putS acc ↔ y ∈ acc ∨ y ∈ l
  | [], acc, y => by simp
  | x :: t, acc, y => by
    rw [List.foldl_cons, mem_putAll, mem_putS, List.mem_cons, or_assoc]
def textsUp (l : List Datum) (k : Nat) : List Bytes := ((l.take k).map Datum.text).foldl putS []
theorem texts_up {l : List Datum} {k : Nat} (hk : k < l.length) : textsUp l (k + 1) = putS (textsUp l k) (l[k]).text := by
  unfold textsUp
  rw [List.take_succ_eq_append_getElem hk, List.map_append, List.foldl_append]; rfl
theorem mem_texts {l : List Datum} {k : Nat} (hk : l.length ≤ k) {y : Bytes} : y ∈ textsUp l k ↔ y ∈ l.map Datum.text := by
  unfold textsUp
  rw [List.take_of_length_le hk, mem_putAll]; simp
theorem hosts_at {a : Answer} {i : Nat} (hi : i < a.sets.els.length) (hp : isServer a.cut (a.sets.els[i]).c = true) (hb : ∀ j (hj : j < a.sets.els.length), j < i → isServer a.cut (a.sets.els[j]).c = false) : hostsR a.c = ((a.sets.els[i]).set.data.els).map Datum.text := by
  have h : a.c.sets.find? (isServer a.c.cut) = some (a.sets.els[i]).c := by
    show (a.sets.els.map Signed.c).find? (isServer a.cut) = _
    rw [List.find?_map, show a.sets.els.find? (isServer a.cut ∘ Signed.c) = some a.sets.els[i] from find_at (p := isServer a.cut ∘ Signed.c) hi hp hb]; rfl
  unfold hostsR; rw [h]; rfl
theorem hosts_no {a : Answer} (hb : ∀ j (hj : j < a.sets.els.length), isServer a.cut (a.sets.els[j]).c = false) : hostsR a.c = [] := by
  have h : a.c.sets.find? (isServer a.c.cut) = none := by
    show (a.sets.els.map Signed.c).find? (isServer a.cut) = _
    have h2 : a.sets.els.find? (isServer a.cut ∘ Signed.c) = none := find_no fun x hx => by
      obtain ⟨j, hj, rfl⟩ := List.getElem_of_mem hx
      exact hb j hj
    rw [List.find?_map, h2]; rfl
  unfold hostsR; rw [h]
theorem cap2 {x : RSet} {p1 p2 : Value} : (#[] ++ [Value.agg (enc x).toArray].toArray ++ #[p1, p2] : Array Value) = #[.agg (enc x).toArray, p1, p2] := by simp
/-- What 'referral' leaves. -/
def RuleR (w : World) (H : Hp) (p : SetC → Bool) : Ending → World → Prop := RetF w H (fun g : Hp × RuleV => RuleGood g.1 g.2 ∧ g.2.p = p) (fun g => g.2.v) (fun g => g.1)
theorem ref_end {w0 w : World} {H0 H : Hp} {L : List Loc} {a : Answer} {b5 b7 bm : Nat} {hl : List Bytes} (hst : St w0 H0 H L w) (hsub : List.Sublist [.blk b7 239 [.map (some bm)], .any bm (mObj strV (hl.map fun x => (x, Value.bool true)))] L) (ha : Enc.good H a) (z5 : H.cells b5 0 (enc a)) (hh : ∀ y, y ∈ hl ↔ y ∈ hostsR a.c) : RuleR w0 H0 (refR a.c) (.returned (.func (.func 220) #[] #[.pointer (some ⟨b5, 0, none⟩), .pointer (some ⟨b7, 0, none⟩)])) w := by
  obtain ⟨H2, z7, hle2, hst2⟩ := (hst.sub hsub).frz
  obtain ⟨H3, zm, hle3, hst3⟩ := hst2.frzAnyU
  exact ⟨(H3, ⟨_, refR a.c⟩), ⟨⟨220, #[.pointer (some ⟨b5, 0, none⟩), .pointer (some ⟨b7, 0, none⟩)], rfl, Tryz.call220, fun x H' w hle hs hx => by
    rw [cap2]
    exact c_ref2 a x H' w hs (Enc.mono ((hle2.trans hle3).trans hle) ha) hx (z5.le ((hle2.trans hle3).trans hle)) (z7.le (hle3.trans hle)) (hle _ _ zm) hh⟩, rfl⟩, rfl, hst3.fresh⟩
set_option maxHeartbeats 8000000 in
theorem c_referral (zone : Bytes) (q : Question) (a : Answer) (H : Hp) (w : World) (hs : Sat H w) (hz : LenOk zone) (hq : Enc.good H q) (ha : Enc.good H a) : Calls Tryz.prog 194 #[strV zone, .agg (enc q).toArray, .agg (enc a).toArray] w (RuleR w H (referR zone q a.c)) := by
  refine T.enter (vs := [strV zone, .agg (enc q).toArray, .agg (enc a).toArray]) (H := H) Tryz.func194 rfl rfl rfl hs ?_
  have hgs := ha.2.1
  have hlen := hgs.len
  have hlim := hgs.lim
  by_cases hb : belowV a.cut zone = true ∧ (underC q.name a.cut).1 = true
  · obtain ⟨h1, h2⟩ := hb
    have hr : referR zone q a.c = refR a.c := by unfold referR; rw [if_pos ⟨h1, h2⟩]
    rw [hr]
    repeat (any_goals (first | refine T.seq ?_ | refine T.region ?_ | refine TL.nil ?_ | refine N.next ?_ | refine N.inBlock ?_ | refine N.exit_same ?_ | refine N.exit_then ?_ | refine N.ret_then ?_ | refine N.ret_block ?_ | (apply N.exit_other; rfl) | refine T.ret ?_ | refine T.skip ?_ | refine T.exit ?_ | refine T.block ?_ | (apply T.cond_true; rfl) | (apply T.cond_false; rfl) | (apply T.test; rfl; (with_reducible (first | exact Is.ndec | exact Is.dec | exact Is.not | ((fail_if_success exact Is.litT); (fail_if_success exact Is.litF); exact Is.base))); intro _; rotate_left; intro _; rotate_right) | (apply TL.skip; rfl; rfl; rfl) | (apply TL.skip_none; rfl; rfl) | (apply TL.x; rfl; rfl; (apply X.box (d := 4); rfl; rfl; rfl); intro b4 _; apply TL.frz 0; rfl; intro Hq z4 hleq) | (apply TL.x; rfl; rfl; (apply X.box (d := 5); rfl; rfl; rfl); intro b5 _; apply TL.frz 0; rfl; intro H1 z5 hle5; have y4 := z4.le hle5) | (apply TL.val; rfl; rfl; (apply V.load_H; rfl; rfl; rfl; first | exact z5 2 _ rfl | exact z5 1 _ rfl | exact y4 0 _ rfl)) | (apply TL.callE (f := 218) [strV a.cut, strV zone] Tryz.call218; rfl; rfl; rfl; rfl; (exact fun _ hs => h1 ▸ c_vbelow a.cut zone _ _ hs.sat ha.2.2 hz)) | (apply TL.callE (f := 141) [strV q.name, strV a.cut] Tryz.call141; rfl; rfl; rfl; rfl; (exact fun _ hs => h2 ▸ c_vunder q.name a.cut _ _ hs.sat hq.1 ha.2.2)) | (apply TL.x; rfl; rfl; (apply X.makeMap strV; rfl); intro bm _) | (apply TL.x; rfl; rfl; (apply X.alloc (d := 7); rfl; rfl; rfl); intro b7 _) | (apply TL.x; rfl; rfl; (apply X.storeTo 0 [Value.map (some bm)]; rfl; rfl; rfl; rfl; rfl; rfl; rfl; rfl; rfl; rfl); intro _ _) | (apply TL.val; rfl; rfl; (first | exact vpure | exact vread)) | (apply TL.x; rfl; rfl; (first | exact xgrow | exact xput); intro _ _) | (apply TL.guard; rfl; rfl; rfl; (with_reducible (first | exact Is.ndec | exact Is.dec | exact Is.not | ((fail_if_success exact Is.litT); (fail_if_success exact Is.litF); exact Is.base))); intro _; rotate_left; intro _; rotate_right)))
    all_goals (try contradiction)
    have hle1 : H.le H1 := hleq.trans hle5
    have ha1 := Enc.mono hle1 ha
    have hgs1 := hgs.mono hle1
    refine T.loop (G := Nat) (fun i => [(5, .pointer (some ⟨b5, 0, none⟩)), (7, .pointer (some ⟨b7, 0, none⟩)), (27, a.sets.v), (28, intV a.sets.len), (29, intV i)]) (fun _ => H1) (fun _ => [.blk b7 239 [.map (some bm)], .any bm (mObj strV (([] : List Bytes).map fun x => (x, Value.bool true)))]) (fun i => i ≤ a.sets.len ∧ ∀ j (hj : j < a.sets.els.length), j < i → isServer a.cut (a.sets.els[j]).c = false) (fun i => a.sets.len - i) 0 ⟨Nat.zero_le _, fun j _ h => by omega⟩ (by (repeat (first | exact True.intro | refine ⟨rfl, ?_⟩ | refine Sub.int rfl (by omega) ?_))) rfl (by (repeat (first | exact List.Sublist.refl _ | exact List.nil_sublist _ | apply List.Sublist.cons_cons | apply List.Sublist.cons))) ?_
    rintro i ⟨hi, hrel⟩
    by_cases hlt : i < a.sets.len
    · have hk2 : i < a.sets.els.length := by omega
      have hx := hgs1.els _ (List.getElem_mem hk2)
      have hat := fun h => hosts_at (a := a) hk2 h hrel
      have hgd := hx.1.2.2.2
      have hdl := hgd.len
      have hdm := hgd.lim
      have hsv : isServer a.cut (a.sets.els[i]'hk2).c = (decide ((a.sets.els[i]'hk2).set.name = a.cut) && decide ((a.sets.els[i]'hk2).set.typ = 2)) := rfl
      repeat (any_goals (first | refine T.seq ?_ | refine T.region ?_ | refine TL.nil ?_ | refine N.next ?_ | refine N.inBlock ?_ | refine N.exit_same ?_ | refine N.exit_then ?_ | refine N.ret_then ?_ | refine N.ret_block ?_ | (apply N.exit_other; rfl) | refine T.ret ?_ | refine T.skip ?_ | refine T.exit ?_ | refine T.block ?_ | (apply T.cond_true; rfl) | (apply T.cond_false; rfl) | (apply T.test; rfl; (with_reducible (first | exact Is.ndec | exact Is.dec | exact Is.not | ((fail_if_success exact Is.litT); (fail_if_success exact Is.litF); exact Is.base))); intro _; rotate_left; intro _; rotate_right) | (apply TL.skip; rfl; rfl; rfl) | (apply TL.skip_none; rfl; rfl) | (apply TL.x; rfl; rfl; (apply X.storeTo 0 (enc (a.sets.els[i]'hk2)); rfl; rfl; rfl; rfl; rfl; rfl; rfl; rfl; rfl; rfl); intro _ _) | (apply TL.val; rfl; rfl; (apply V.load_H; rfl; rfl; rfl; exact z5 2 _ rfl)) | (apply TL.val; rfl; rfl; (first | exact vpure | exact vread)) | (apply TL.x; rfl; rfl; (first | exact xgrow | exact xput); intro _ _) | (apply TL.guard; rfl; rfl; rfl; (with_reducible (first | exact Is.ndec | exact Is.dec | exact Is.not | ((fail_if_success exact Is.litT); (fail_if_success exact Is.litF); exact Is.base))); intro _; rotate_left; intro _; rotate_right)))
      all_goals (try (exfalso; omega))
      all_goals first
        | (have hnt : isServer a.cut (a.sets.els[i]'hk2).c = false := by
             rw [hsv]
             first
               | rw [decide_eq_false (show ¬ (a.sets.els[i]'hk2).set.name = a.cut by assumption), Bool.false_and]
               | rw [decide_eq_false (show ¬ (a.sets.els[i]'hk2).set.typ = 2 by assumption), Bool.and_false]
           refine N.round (i + 1) ⟨by omega, fun j hj hjk => ?_⟩ (by show a.sets.len - (i + 1) < a.sets.len - i; omega) (by (repeat (first | exact True.intro | refine ⟨rfl, ?_⟩ | refine Sub.int rfl (by omega) ?_))) rfl (by (repeat (first | exact List.Sublist.refl _ | exact List.nil_sublist _ | apply List.Sublist.cons_cons | apply List.Sublist.cons)))
           by_cases e : j = i
           · subst e; exact hnt
           · exact hrel j hj (by omega))
        | skip
      have hst : isServer a.cut (a.sets.els[i]'hk2).c = true := by
        rw [hsv, decide_eq_true (show (a.sets.els[i]'hk2).set.name = a.cut by assumption), decide_eq_true (show (a.sets.els[i]'hk2).set.typ = 2 by assumption)]; rfl
      have hho := hat hst
      refine T.loop (G := Nat) (fun k => [(5, .pointer (some ⟨b5, 0, none⟩)), (7, .pointer (some ⟨b7, 0, none⟩)), (47, (a.sets.els[i]'hk2).set.data.v), (48, intV (a.sets.els[i]'hk2).set.data.len), (49, intV k)]) (fun _ => H1) (fun k => [.blk b7 239 [.map (some bm)], .any bm (mObj strV ((textsUp (a.sets.els[i]'hk2).set.data.els k).map fun x => (x, Value.bool true)))]) (fun k => k ≤ (a.sets.els[i]'hk2).set.data.len) (fun k => (a.sets.els[i]'hk2).set.data.len - k) 0 (Nat.zero_le _) (by (repeat (first | exact True.intro | refine ⟨rfl, ?_⟩ | refine Sub.int rfl (by omega) ?_))) rfl (by (repeat (first | exact List.Sublist.refl _ | exact List.nil_sublist _ | apply List.Sublist.cons_cons | apply List.Sublist.cons))) ?_
      intro k hk
      by_cases hlk : k < (a.sets.els[i]'hk2).set.data.len
      · have hk3 : k < (a.sets.els[i]'hk2).set.data.els.length := by omega
        have hup := texts_up hk3
        repeat (any_goals (first | refine T.seq ?_ | refine T.region ?_ | refine TL.nil ?_ | refine N.next ?_ | refine N.inBlock ?_ | refine N.exit_same ?_ | refine N.exit_then ?_ | refine N.ret_then ?_ | refine N.ret_block ?_ | (apply N.exit_other; rfl) | refine T.ret ?_ | refine T.skip ?_ | refine T.exit ?_ | refine T.block ?_ | (apply T.cond_true; rfl) | (apply T.cond_false; rfl) | (apply T.test; rfl; (with_reducible (first | exact Is.ndec | exact Is.dec | exact Is.not | ((fail_if_success exact Is.litT); (fail_if_success exact Is.litF); exact Is.base))); intro _; rotate_left; intro _; rotate_right) | (apply TL.skip; rfl; rfl; rfl) | (apply TL.skip_none; rfl; rfl) | (apply TL.x; rfl; rfl; (apply X.storeTo 0 (enc ((a.sets.els[i]'hk2).set.data.els[k]'hk3)); rfl; rfl; rfl; rfl; rfl; rfl; rfl; rfl; rfl; rfl); intro _ _) | (apply TL.x; rfl; rfl; (apply X.mput 2 ((a.sets.els[i]'hk2).set.data.els[k]'hk3).text; rfl; rfl; exact keyS Tryz.underlying9; rfl; rfl; rfl; rfl; exact mput_toQ aPut_putS rfl); intro _ _) | (apply TL.val; rfl; rfl; (first | exact vpure | exact vread)) | (apply TL.x; rfl; rfl; (first | exact xgrow | exact xput); intro _ _) | (apply TL.guard; rfl; rfl; rfl; (with_reducible (first | exact Is.ndec | exact Is.dec | exact Is.not | ((fail_if_success exact Is.litT); (fail_if_success exact Is.litF); exact Is.base))); intro _; rotate_left; intro _; rotate_right)))
        all_goals (try (exfalso; omega))
        exact N.round (k + 1) (by show k + 1 ≤ _; omega) (by show (a.sets.els[i]'hk2).set.data.len - (k + 1) < (a.sets.els[i]'hk2).set.data.len - k; omega) (by (repeat (first | exact True.intro | refine ⟨rfl, ?_⟩ | refine Sub.int rfl (by omega) ?_))) rfl (by rw [hup]; (repeat (first | exact List.Sublist.refl _ | exact List.nil_sublist _ | apply List.Sublist.cons_cons | apply List.Sublist.cons)))
      · repeat (any_goals (first | refine T.seq ?_ | refine T.region ?_ | refine TL.nil ?_ | refine N.next ?_ | refine N.inBlock ?_ | refine N.exit_same ?_ | refine N.exit_then ?_ | refine N.ret_then ?_ | refine N.ret_block ?_ | (apply N.exit_other; rfl) | refine T.ret ?_ | refine T.skip ?_ | refine T.exit ?_ | refine T.block ?_ | (apply T.cond_true; rfl) | (apply T.cond_false; rfl) | (apply T.test; rfl; (with_reducible (first | exact Is.ndec | exact Is.dec | exact Is.not | ((fail_if_success exact Is.litT); (fail_if_success exact Is.litF); exact Is.base))); intro _; rotate_left; intro _; rotate_right) | (apply TL.skip; rfl; rfl; rfl) | (apply TL.skip_none; rfl; rfl) | (apply TL.val; rfl; rfl; (apply V.makeFunc (vs := []) (us := [.pointer (some ⟨b5, 0, none⟩), .pointer (some ⟨b7, 0, none⟩)]) <;> rfl)) | (apply TL.val; rfl; rfl; (first | exact vpure | exact vread)) | (apply TL.x; rfl; rfl; (first | exact xgrow | exact xput); intro _ _) | (apply TL.guard; rfl; rfl; rfl; (with_reducible (first | exact Is.ndec | exact Is.dec | exact Is.not | ((fail_if_success exact Is.litT); (fail_if_success exact Is.litF); exact Is.base))); intro _; rotate_left; intro _; rotate_right)))
        all_goals (try (exfalso; omega))
        exact N.ret1 rfl (by (exact rvx)) fun w hst => ref_end hst (by (repeat (first | exact List.Sublist.refl _ | exact List.nil_sublist _ | apply List.Sublist.cons_cons | apply List.Sublist.cons))) ha1 z5 fun y => by rw [mem_texts (by omega), hho]
    · repeat (any_goals (first | refine T.seq ?_ | refine T.region ?_ | refine TL.nil ?_ | refine N.next ?_ | refine N.inBlock ?_ | refine N.exit_same ?_ | refine N.exit_then ?_ | refine N.ret_then ?_ | refine N.ret_block ?_ | (apply N.exit_other; rfl) | refine T.ret ?_ | refine T.skip ?_ | refine T.exit ?_ | refine T.block ?_ | (apply T.cond_true; rfl) | (apply T.cond_false; rfl) | (apply T.test; rfl; (with_reducible (first | exact Is.ndec | exact Is.dec | exact Is.not | ((fail_if_success exact Is.litT); (fail_if_success exact Is.litF); exact Is.base))); intro _; rotate_left; intro _; rotate_right) | (apply TL.skip; rfl; rfl; rfl) | (apply TL.skip_none; rfl; rfl) | (apply TL.val; rfl; rfl; (apply V.makeFunc (vs := []) (us := [.pointer (some ⟨b5, 0, none⟩), .pointer (some ⟨b7, 0, none⟩)]) <;> rfl)) | (apply TL.val; rfl; rfl; (first | exact vpure | exact vread)) | (apply TL.x; rfl; rfl; (first | exact xgrow | exact xput); intro _ _) | (apply TL.guard; rfl; rfl; rfl; (with_reducible (first | exact Is.ndec | exact Is.dec | exact Is.not | ((fail_if_success exact Is.litT); (fail_if_success exact Is.litF); exact Is.base))); intro _; rotate_left; intro _; rotate_right)))
      all_goals (try (exfalso; omega))
      exact N.ret1 rfl (by (exact rvx)) fun w hst => ref_end (hl := []) hst (by (repeat (first | exact List.Sublist.refl _ | exact List.nil_sublist _ | apply List.Sublist.cons_cons | apply List.Sublist.cons))) ha1 z5 fun y => by rw [hosts_no fun j hj => hrel j hj (by omega)]
  · have hr : referR zone q a.c = noneR := by unfold referR; exact if_neg hb
    rw [hr]
    obtain ⟨v1, hv1⟩ : ∃ v, belowV a.cut zone = v := ⟨_, rfl⟩
    obtain ⟨v2, hv2⟩ : ∃ v, (underC q.name a.cut).1 = v := ⟨_, rfl⟩
    rw [hv1, hv2] at hb
    repeat (any_goals (first | refine T.seq ?_ | refine T.region ?_ | refine TL.nil ?_ | refine N.next ?_ | refine N.inBlock ?_ | refine N.exit_same ?_ | refine N.exit_then ?_ | refine N.ret_then ?_ | refine N.ret_block ?_ | (apply N.exit_other; rfl) | refine T.ret ?_ | refine T.skip ?_ | refine T.exit ?_ | refine T.block ?_ | (apply T.cond_true; rfl) | (apply T.cond_false; rfl) | (apply T.test; rfl; (with_reducible (first | exact Is.ndec | exact Is.dec | exact Is.not | ((fail_if_success exact Is.litT); (fail_if_success exact Is.litF); exact Is.base))); intro _; rotate_left; intro _; rotate_right) | (apply TL.skip; rfl; rfl; rfl) | (apply TL.skip_none; rfl; rfl) | (apply TL.x; rfl; rfl; (apply X.box (d := 4); rfl; rfl; rfl); intro b4 _; apply TL.frz 0; rfl; intro Hq z4 hleq) | (apply TL.x; rfl; rfl; (apply X.box (d := 5); rfl; rfl; rfl); intro b5 _; apply TL.frz 0; rfl; intro H1 z5 hle5; have y4 := z4.le hle5) | (apply TL.val; rfl; rfl; (apply V.load_H; rfl; rfl; rfl; first | exact z5 2 _ rfl | exact z5 1 _ rfl | exact y4 0 _ rfl)) | (apply TL.callE (f := 218) [strV a.cut, strV zone] Tryz.call218; rfl; rfl; rfl; rfl; (exact fun _ hs => hv1 ▸ c_vbelow a.cut zone _ _ hs.sat ha.2.2 hz)) | (apply TL.callE (f := 141) [strV q.name, strV a.cut] Tryz.call141; rfl; rfl; rfl; rfl; (exact fun _ hs => hv2 ▸ c_vunder q.name a.cut _ _ hs.sat hq.1 ha.2.2)) | (apply TL.x; rfl; rfl; (apply X.makeMap strV; rfl); intro bm _) | (apply TL.val; rfl; rfl; (first | exact vpure | exact vread)) | (apply TL.x; rfl; rfl; (first | exact xgrow | exact xput); intro _ _) | (apply TL.guard; rfl; rfl; rfl; (with_reducible (first | exact Is.ndec | exact Is.dec | exact Is.not | ((fail_if_success exact Is.litT); (fail_if_success exact Is.litF); exact Is.base))); intro _; rotate_left; intro _; rotate_right)))
    all_goals first
      | exact N.ret1 rfl (by (exact rvx)) fun w hst => ⟨(_, ⟨_, noneR⟩), ⟨⟨219, #[], rfl, Tryz.call219, fun x H' w hle hs hx => by rw [cap0]; exact c_ref1 hs⟩, rfl⟩, rfl, hst.fresh⟩
      | (exfalso; exact hb ⟨by assumption, by assumption⟩)
      | (exfalso; simp_all; done)
end Go.Proofs.YtogcofeencgipaaGreatDoor
