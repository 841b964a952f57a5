/- Walks: the rule for a referral. -/
import Derived.Test.YtpnoabbdcakjkaaGreatDoorQQC
import Derived.Test.YtpnoabbdcakjkaaGreatDoorQTMap
namespace Go.Proofs.YtpnoabbdcakjkaaGreatDoor
set_option linter.unusedVariables false
set_option linter.unusedSimpArgs false
open Go Go.RowKit
open Enc (enc)
set_option maxRecDepth 20000
theorem aPut_old {κ : Type} [DecidableEq κ] {a : κ} {l : List κ} (h : a ∈ l) : aPut a (.bool true) (l.map fun x => (x, Value.bool true)) = l.map fun x => (x, Value.bool true) := by
  unfold aPut
  cases hf : aFind a (l.map fun x => (x, Value.bool true)) 0 with
  | none =>
    rw [aFind_none] at hf
    exact absurd rfl (hf (a, .bool true) (List.mem_map.2 ⟨a, h, rfl⟩))
  | some p =>
    obtain ⟨j, v⟩ := p
    have h2 := (aFind_some hf).2
    rw [Nat.sub_zero] at h2
    obtain ⟨x, hx, he⟩ := List.mem_map.1 (List.mem_of_getElem? h2)
    simp only [Prod.mk.injEq] at he
    obtain ⟨rfl, rfl⟩ := he
    obtain ⟨hj, e⟩ := List.getElem?_eq_some_iff.1 h2
    show (l.map _).set j _ = _
    rw [← e, List.set_getElem_self]
section
variable {P : Program} {n : FK} {w0 w w' : World} {H0 H H' : Hp} {env : List (Nat × Value)} {L : List Loc} {κ : Type} [DecidableEq κ] {mk : κ → Value} {kt : TypeId} {kd : TypeDesc}
theorem V.mlookupHK [Tys P] {t e : TypeId} {x y : Operand} {b : Nat} {k ke : TyK} {l : List (κ × Value)} {c : Value} (a : κ) (hk : tyk P t = some k) (hd : k.desc = .map kt e) (hke : tyk P e = some ke) (K : KeyK P kt kd mk) (hx : ev env x = some (.map (some b))) (hy : ev env y = some (mk a))
    (hm : H b = some (mObj mk l)) (hc : (aGet a l).getD ke.zero = c) : V P n (St w0 H0 H L) env (.lookup t x y false) c :=
  ⟨fun o a' w ho hf hs => by
    obtain ⟨d, hd1, hd2⟩ := (tyk_ok hk).und
    rw [hd] at hd2
    simp only [TyD.fits] at hd2
    subst hd2
    have := run_mlookup K hd1 a ((tyk_ok hke).zeroRun w) (hs.sat _ _ hm)
    unfold execOp
    rw [ho]
    simp only [hf.ev hx, hf.ev hy, Sem.run_bind, this, hc]
    rfl⟩
end
def putS (l : List Bytes) (x : Bytes) : List Bytes := if x ∈ l then l else l ++ [x]
theorem aPut_putS {l : List Bytes} {x : Bytes} : aPut x (.bool true) (l.map fun x => (x, Value.bool true)) = (putS l x).map fun x => (x, Value.bool true) := by
  unfold putS
  split
  · rename_i h; exact aPut_old h
  · rename_i h; exact aPut_set h
theorem mem_putS {l : List Bytes} {x y : Bytes} : y ∈ putS l x ↔ y ∈ l ∨ y = x := by
  unfold putS
  split
  · rename_i h
    exact ⟨.inl, fun h2 => h2.elim id (fun e => e ▸ h)⟩
  · simp
/-- The hosts of a referral: the texts of the first server set of its cut. -/
def isServer (cut : Bytes) (s : SignedC) : Bool := decide (s.set.name = cut) && decide (s.set.typ = 2)
def hostsR (a : AnswerC) : List Bytes := match a.sets.find? (isServer a.cut) with
  | some s => s.set.data.map Datum.text
  | none => []
def refR (a : AnswerC) (s : SetC) : Bool := if s.typ = 2 ∨ s.typ = 6 ∨ s.typ = 8 then decide (s.name = a.cut) else decide (s.typ = 1) && ((underC s.name a.cut).1 && decide (s.name ∈ hostsR a))
def referR (zone : Bytes) (q : Question) (a : AnswerC) : SetC → Bool := if belowV a.cut zone = true ∧ (underC q.name a.cut).1 = true then refR a else noneR
theorem c_ref2 (a : Answer) (x : RSet) {b5 b7 bm : Nat} {hl : List Bytes} (H : Hp) (w : World) (hs : Sat H w) (ha : Enc.good H a) (hx : Enc.good H x) (z5 : H.cells b5 0 (enc a)) (z7 : H.cells b7 0 [.map (some bm)]) (zm : H bm = some (mObj strV (hl.map fun x => (x, Value.bool true)))) (hh : ∀ y, y ∈ hl ↔ y ∈ hostsR a.c) : Calls Tryz.prog 115 #[.agg (enc x).toArray, .pointer (some ⟨b5, 0, none⟩), .pointer (some ⟨b7, 0, none⟩)] w (Ret w (.bool (refR a.c x.c))) := by
  have hmem : (aGet x.name (hl.map fun x => (x, Value.bool true))).getD (.bool false) = .bool (decide (x.name ∈ hostsR a.c)) := by
    rw [aGet_set]; congr 1; exact decide_eq_decide.2 (hh _)
  refine T.enter (vs := [.agg (enc x).toArray, .pointer (some ⟨b5, 0, none⟩), .pointer (some ⟨b7, 0, none⟩)]) (H := H) Tryz.func115 rfl rfl rfl hs ?_
  repeat (any_goals (first | refine T.seq ?_ | refine T.region ?_ | refine TL.nil ?_ | refine N.next ?_ | refine N.inBlock ?_ | refine N.exit_same ?_ | refine N.exit_then ?_ | refine N.ret_then ?_ | refine N.ret_block ?_ | (apply N.exit_other; rfl) | refine T.ret ?_ | refine T.skip ?_ | refine T.exit ?_ | refine T.block ?_ | (apply T.cond_true; rfl) | (apply T.cond_false; rfl) | (apply T.test; rfl; (exact isx); intro _; rotate_left; intro _; rotate_right) | (apply TL.skip; rfl; rfl; rfl) | (apply TL.skip_none; rfl; rfl) | (apply TL.val; rfl; rfl; (apply V.load_H; rfl; rfl; rfl; first | exact z5 2 _ rfl | exact z7 0 _ rfl)) | (apply TL.callE (f := 40) [strV x.name, strV a.cut] Tryz.call40; (iterate 4 rfl); (exact fun _ hs => c_vunder x.name a.cut _ _ hs.sat hx.1 ha.2.2)) | (apply TL.val; rfl; rfl; (apply V.mlookupHK x.name; rfl; rfl; rfl; exact keyS Tryz.underlying9; rfl; rfl; exact zm; exact hmem)) | (apply TL.val; rfl; rfl; (first | exact vpure | exact vread)) | (apply TL.x; rfl; rfl; (first | exact xgrow | exact xput); intro _ _) | (apply TL.guard; rfl; rfl; rfl; (exact isx); intro _; rotate_left; intro _; rotate_right)))
  all_goals (try (first | (apply N.ret_bool; rfl; (exact rvx)) | (apply N.ret_int; rfl; (exact rvx)) | (apply N.ret_val; rfl; (exact rvx))))
  all_goals (show _ = (if x.typ = 2 ∨ x.typ = 6 ∨ x.typ = 8 then decide (x.name = a.cut) else decide (x.typ = 1) && ((underC x.name a.cut).1 && decide (x.name ∈ hostsR a.c))))
  all_goals (try simp_all)
end Go.Proofs.YtpnoabbdcakjkaaGreatDoor
namespace Go.Proofs.YtpnoabbdcakjkaaGreatDoor
set_option linter.unusedVariables false
set_option linter.unusedSimpArgs false
open Go Go.RowKit
open Enc (enc)
set_option maxRecDepth 20000
theorem mput_toQ {κ : Type} [DecidableEq κ] {L L' : List Loc} {i b : Nat} {mk : κ → Value} {a : κ} {v : Value} {l l' : List (κ × Value)} (h : aPut a v l = l') (hL : L.set i (.any b (mObj mk l')) = L') : L.set i (.any b (mObj mk (aPut a v l))) = L' := by rw [h]; exact hL
theorem mem_putAll : ∀ {l acc : List Bytes} {y : Bytes}, y ∈ l.foldl putS acc ↔ y ∈ acc ∨ y ∈ l
  | [], acc, y => by simp
  | x :: t, acc, y => by
    rw [List.foldl_cons, mem_putAll, mem_putS, List.mem_cons, or_assoc]
def textsUp (l : List Datum) (k : Nat) : List Bytes := ((l.take k).map Datum.text).foldl putS []
theorem texts_up {l : List Datum} {k : Nat} (hk : k < l.length) : textsUp l (k + 1) = putS (textsUp l k) (l[k]).text := by
  unfold textsUp
  rw [List.take_succ_eq_append_getElem hk, List.map_append, List.foldl_append]; rfl
theorem mem_texts {l : List Datum} {k : Nat} (hk : l.length ≤ k) {y : Bytes} : y ∈ textsUp l k ↔ y ∈ l.map Datum.text := by
  unfold textsUp
  rw [List.take_of_length_le hk, mem_putAll]; simp
theorem hosts_at {a : Answer} {i : Nat} (hi : i < a.sets.els.length) (hp : isServer a.cut (a.sets.els[i]).c = true) (hb : ∀ j (hj : j < a.sets.els.length), j < i → isServer a.cut (a.sets.els[j]).c = false) : hostsR a.c = ((a.sets.els[i]).set.data.els).map Datum.text := by
  have h : a.c.sets.find? (isServer a.c.cut) = some (a.sets.els[i]).c := by
    show (a.sets.els.map Signed.c).find? (isServer a.cut) = _
    rw [List.find?_map, show a.sets.els.find? (isServer a.cut ∘ Signed.c) = some a.sets.els[i] from find_at (p := isServer a.cut ∘ Signed.c) hi hp hb]; rfl
  unfold hostsR; rw [h]; rfl
theorem hosts_no {a : Answer} (hb : ∀ j (hj : j < a.sets.els.length), isServer a.cut (a.sets.els[j]).c = false) : hostsR a.c = [] := by
  have h : a.c.sets.find? (isServer a.c.cut) = none := by
    show (a.sets.els.map Signed.c).find? (isServer a.cut) = _
    have h2 : a.sets.els.find? (isServer a.cut ∘ Signed.c) = none := find_noQ fun x hx => by
      obtain ⟨j, hj, rfl⟩ := List.getElem_of_mem hx
      exact hb j hj
    rw [List.find?_map, h2]; rfl
  unfold hostsR; rw [h]
theorem cap2 {x : RSet} {p1 p2 : Value} : (#[] ++ [Value.agg (enc x).toArray].toArray ++ #[p1, p2] : Array Value) = #[.agg (enc x).toArray, p1, p2] := by simp
/-- What 'referral' leaves. -/
def RuleR (w : World) (H : Hp) (p : SetC → Bool) : Ending → World → Prop := RetF w H (fun g : Hp × RuleV => RuleGood g.1 g.2 ∧ g.2.p = p) (fun g => g.2.v) (fun g => g.1)
theorem ref_end {w0 w : World} {H0 H : Hp} {L : List Loc} {a : Answer} {b5 b7 bm : Nat} {hl : List Bytes} (hst : St w0 H0 H L w) (hsub : List.Sublist [.blk b7 180 [.map (some bm)], .any bm (mObj strV (hl.map fun x => (x, Value.bool true)))] L) (ha : Enc.good H a) (z5 : H.cells b5 0 (enc a)) (hh : ∀ y, y ∈ hl ↔ y ∈ hostsR a.c) : RuleR w0 H0 (refR a.c) (.returned (.func (.func 115) #[] #[.pointer (some ⟨b5, 0, none⟩), .pointer (some ⟨b7, 0, none⟩)])) w := by
  obtain ⟨H2, z7, hle2, hst2⟩ := (hst.sub hsub).frz
  obtain ⟨H3, zm, hle3, hst3⟩ := hst2.frzAnyU
  exact ⟨(H3, ⟨_, refR a.c⟩), ⟨⟨115, #[.pointer (some ⟨b5, 0, none⟩), .pointer (some ⟨b7, 0, none⟩)], rfl, Tryz.call115, fun x H' w hle hs hx => by
    rw [cap2]
    exact c_ref2 a x H' w hs (Enc.mono ((hle2.trans hle3).trans hle) ha) hx (z5.le ((hle2.trans hle3).trans hle)) (z7.le (hle3.trans hle)) (hle _ _ zm) hh⟩, rfl⟩, rfl, hst3.fresh⟩
set_option maxHeartbeats 8000000 in
theorem c_referral (zone : Bytes) (q : Question) (a : Answer) (H : Hp) (w : World) (hs : Sat H w) (hz : LenOk zone) (hq : Enc.good H q) (ha : Enc.good H a) : Calls Tryz.prog 75 #[strV zone, .agg (enc q).toArray, .agg (enc a).toArray] w (RuleR w H (referR zone q a.c)) := by
  refine T.enter (vs := [strV zone, .agg (enc q).toArray, .agg (enc a).toArray]) (H := H) Tryz.func75 rfl rfl rfl hs ?_
  have hgs := ha.2.1
  have hlen := hgs.len
  have hlim := hgs.lim
  by_cases hb : belowV a.cut zone = true ∧ (underC q.name a.cut).1 = true
  · obtain ⟨h1, h2⟩ := hb
    have hr : referR zone q a.c = refR a.c := by unfold referR; rw [if_pos ⟨h1, h2⟩]
    rw [hr]
    repeat (any_goals (first | refine T.seq ?_ | refine T.region ?_ | refine TL.nil ?_ | refine N.next ?_ | refine N.inBlock ?_ | refine N.exit_same ?_ | refine N.exit_then ?_ | refine N.ret_then ?_ | refine N.ret_block ?_ | (apply N.exit_other; rfl) | refine T.ret ?_ | refine T.skip ?_ | refine T.exit ?_ | refine T.block ?_ | (apply T.cond_true; rfl) | (apply T.cond_false; rfl) | (apply T.test; rfl; (exact isx); intro _; rotate_left; intro _; rotate_right) | (apply TL.skip; rfl; rfl; rfl) | (apply TL.skip_none; rfl; rfl) | (apply TL.x; rfl; rfl; (apply X.box (d := 4); rfl; rfl; rfl); intro b4 _; apply TL.frz 0; rfl; intro Hq z4 hleq) | (apply TL.x; rfl; rfl; (apply X.box (d := 5); rfl; rfl; rfl); intro b5 _; apply TL.frz 0; rfl; intro H1 z5 hle5; have y4 := z4.le hle5) | (apply TL.val; rfl; rfl; (apply V.load_H; rfl; rfl; rfl; first | exact z5 2 _ rfl | exact z5 1 _ rfl | exact y4 0 _ rfl)) | (apply TL.callE (f := 113) [strV a.cut, strV zone] Tryz.call113; (iterate 4 rfl); (exact fun _ hs => h1 ▸ c_vbelow a.cut zone _ _ hs.sat ha.2.2 hz)) | (apply TL.callE (f := 40) [strV q.name, strV a.cut] Tryz.call40; (iterate 4 rfl); (exact fun _ hs => h2 ▸ c_vunder q.name a.cut _ _ hs.sat hq.1 ha.2.2)) | (apply TL.x; rfl; rfl; (apply X.makeMap strV; rfl); intro bm _) | (apply TL.x; rfl; rfl; (apply X.alloc (d := 7); rfl; rfl; rfl); intro b7 _) | (apply TL.x; rfl; rfl; (apply X.storeTo 0 [Value.map (some bm)]; (iterate 10 rfl)); intro _ _) | (apply TL.val; rfl; rfl; (first | exact vpure | exact vread)) | (apply TL.x; rfl; rfl; (first | exact xgrow | exact xput); intro _ _) | (apply TL.guard; rfl; rfl; rfl; (exact isx); intro _; rotate_left; intro _; rotate_right)))
    all_goals (try contradiction)
    have hle1 : H.le H1 := hleq.trans hle5
    have ha1 := Enc.mono hle1 ha
    have hgs1 := hgs.mono hle1
    refine T.loop (G := Nat) (fun i => [(5, .pointer (some ⟨b5, 0, none⟩)), (7, .pointer (some ⟨b7, 0, none⟩)), (27, a.sets.v), (28, intV a.sets.len), (29, intV i)]) (fun _ => H1) (fun _ => [.blk b7 180 [.map (some bm)], .any bm (mObj strV (([] : List Bytes).map fun x => (x, Value.bool true)))]) (fun i => i ≤ a.sets.len ∧ ∀ j (hj : j < a.sets.els.length), j < i → isServer a.cut (a.sets.els[j]).c = false) (fun i => a.sets.len - i) 0 ⟨Nat.zero_le _, fun j _ h => by omega⟩ (by (repeat (first | exact True.intro | refine ⟨rfl, ?_⟩ | refine Sub.int rfl (by omega) ?_))) rfl (by (repeat (first | exact List.Sublist.refl _ | exact List.nil_sublist _ | apply List.Sublist.cons_cons | apply List.Sublist.cons))) ?_
    rintro i ⟨hi, hrel⟩
    by_cases hlt : i < a.sets.len
    · have hk2 : i < a.sets.els.length := by omega
      have hx := hgs1.els _ (List.getElem_mem hk2)
      have hat := fun h => hosts_at (a := a) hk2 h hrel
      have hgd := hx.1.2.2.2
      have hdl := hgd.len
      have hdm := hgd.lim
      have hsv : isServer a.cut (a.sets.els[i]'hk2).c = (decide ((a.sets.els[i]'hk2).set.name = a.cut) && decide ((a.sets.els[i]'hk2).set.typ = 2)) := rfl
      repeat (any_goals (first | refine T.seq ?_ | refine T.region ?_ | refine TL.nil ?_ | refine N.next ?_ | refine N.inBlock ?_ | refine N.exit_same ?_ | refine N.exit_then ?_ | refine N.ret_then ?_ | refine N.ret_block ?_ | (apply N.exit_other; rfl) | refine T.ret ?_ | refine T.skip ?_ | refine T.exit ?_ | refine T.block ?_ | (apply T.cond_true; rfl) | (apply T.cond_false; rfl) | (apply T.test; rfl; (exact isx); intro _; rotate_left; intro _; rotate_right) | (apply TL.skip; rfl; rfl; rfl) | (apply TL.skip_none; rfl; rfl) | (apply TL.x; rfl; rfl; (apply X.storeTo 0 (enc (a.sets.els[i]'hk2)); (iterate 10 rfl)); intro _ _) | (apply TL.val; rfl; rfl; (apply V.load_H; rfl; rfl; rfl; exact z5 2 _ rfl)) | (apply TL.val; rfl; rfl; (first | exact vpure | exact vread)) | (apply TL.x; rfl; rfl; (first | exact xgrow | exact xput); intro _ _) | (apply TL.guard; rfl; rfl; rfl; (exact isx); intro _; rotate_left; intro _; rotate_right)))
      all_goals (try (exfalso; omega))
      all_goals first
        | (have hnt : isServer a.cut (a.sets.els[i]'hk2).c = false := by
             rw [hsv]
             first
               | rw [decide_eq_false (show ¬ (a.sets.els[i]'hk2).set.name = a.cut by assumption), Bool.false_and]
               | rw [decide_eq_false (show ¬ (a.sets.els[i]'hk2).set.typ = 2 by assumption), Bool.and_false]
           refine N.round (i + 1) ⟨by omega, fun j hj hjk => ?_⟩ (by show a.sets.len - (i + 1) < a.sets.len - i; omega) (by (repeat (first | exact True.intro | refine ⟨rfl, ?_⟩ | refine Sub.int rfl (by omega) ?_))) rfl (by (repeat (first | exact List.Sublist.refl _ | exact List.nil_sublist _ | apply List.Sublist.cons_cons | apply List.Sublist.cons)))
           by_cases e : j = i
           · subst e; exact hnt
           · exact hrel j hj (by omega))
        | skip
      have hst : isServer a.cut (a.sets.els[i]'hk2).c = true := by
        rw [hsv, decide_eq_true (show (a.sets.els[i]'hk2).set.name = a.cut by assumption), decide_eq_true (show (a.sets.els[i]'hk2).set.typ = 2 by assumption)]; rfl
      have hho := hat hst
      refine T.loop (G := Nat) (fun k => [(5, .pointer (some ⟨b5, 0, none⟩)), (7, .pointer (some ⟨b7, 0, none⟩)), (47, (a.sets.els[i]'hk2).set.data.v), (48, intV (a.sets.els[i]'hk2).set.data.len), (49, intV k)]) (fun _ => H1) (fun k => [.blk b7 180 [.map (some bm)], .any bm (mObj strV ((textsUp (a.sets.els[i]'hk2).set.data.els k).map fun x => (x, Value.bool true)))]) (fun k => k ≤ (a.sets.els[i]'hk2).set.data.len) (fun k => (a.sets.els[i]'hk2).set.data.len - k) 0 (Nat.zero_le _) (by (repeat (first | exact True.intro | refine ⟨rfl, ?_⟩ | refine Sub.int rfl (by omega) ?_))) rfl (by (repeat (first | exact List.Sublist.refl _ | exact List.nil_sublist _ | apply List.Sublist.cons_cons | apply List.Sublist.cons))) ?_
      intro k hk
      by_cases hlk : k < (a.sets.els[i]'hk2).set.data.len
      · have hk3 : k < (a.sets.els[i]'hk2).set.data.els.length := by omega
        have hup := texts_up hk3
        repeat (any_goals (first | refine T.seq ?_ | refine T.region ?_ | refine TL.nil ?_ | refine N.next ?_ | refine N.inBlock ?_ | refine N.exit_same ?_ | refine N.exit_then ?_ | refine N.ret_then ?_ | refine N.ret_block ?_ | (apply N.exit_other; rfl) | refine T.ret ?_ | refine T.skip ?_ | refine T.exit ?_ | refine T.block ?_ | (apply T.cond_true; rfl) | (apply T.cond_false; rfl) | (apply T.test; rfl; (exact isx); intro _; rotate_left; intro _; rotate_right) | (apply TL.skip; rfl; rfl; rfl) | (apply TL.skip_none; rfl; rfl) | (apply TL.x; rfl; rfl; (apply X.storeTo 0 (enc ((a.sets.els[i]'hk2).set.data.els[k]'hk3)); (iterate 10 rfl)); intro _ _) | (apply TL.x; rfl; rfl; (apply X.mput 2 ((a.sets.els[i]'hk2).set.data.els[k]'hk3).text; rfl; rfl; exact keyS Tryz.underlying9; (iterate 4 rfl); exact mput_toQ aPut_putS rfl); intro _ _) | (apply TL.val; rfl; rfl; (first | exact vpure | exact vread)) | (apply TL.x; rfl; rfl; (first | exact xgrow | exact xput); intro _ _) | (apply TL.guard; rfl; rfl; rfl; (exact isx); intro _; rotate_left; intro _; rotate_right)))
        all_goals (try (exfalso; omega))
        exact N.round (k + 1) (by show k + 1 ≤ _; omega) (by show (a.sets.els[i]'hk2).set.data.len - (k + 1) < (a.sets.els[i]'hk2).set.data.len - k; omega) (by (repeat (first | exact True.intro | refine ⟨rfl, ?_⟩ | refine Sub.int rfl (by omega) ?_))) rfl (by rw [hup]; (repeat (first | exact List.Sublist.refl _ | exact List.nil_sublist _ | apply List.Sublist.cons_cons | apply List.Sublist.cons)))
      · repeat (any_goals (first | refine T.seq ?_ | refine T.region ?_ | refine TL.nil ?_ | refine N.next ?_ | refine N.inBlock ?_ | refine N.exit_same ?_ | refine N.exit_then ?_ | refine N.ret_then ?_ | refine N.ret_block ?_ | (apply N.exit_other; rfl) | refine T.ret ?_ | refine T.skip ?_ | refine T.exit ?_ | refine T.block ?_ | (apply T.cond_true; rfl) | (apply T.cond_false; rfl) | (apply T.test; rfl; (exact isx); intro _; rotate_left; intro _; rotate_right) | (apply TL.skip; rfl; rfl; rfl) | (apply TL.skip_none; rfl; rfl) | (apply TL.val; rfl; rfl; (apply V.makeFunc (vs := []) (us := [.pointer (some ⟨b5, 0, none⟩), .pointer (some ⟨b7, 0, none⟩)]) <;> rfl)) | (apply TL.val; rfl; rfl; (first | exact vpure | exact vread)) | (apply TL.x; rfl; rfl; (first | exact xgrow | exact xput); intro _ _) | (apply TL.guard; rfl; rfl; rfl; (exact isx); intro _; rotate_left; intro _; rotate_right)))
        all_goals (try (exfalso; omega))
        exact N.ret1 rfl (by (exact rvx)) fun w hst => ref_end hst (by (repeat (first | exact List.Sublist.refl _ | exact List.nil_sublist _ | apply List.Sublist.cons_cons | apply List.Sublist.cons))) ha1 z5 fun y => by rw [mem_texts (by omega), hho]
    · repeat (any_goals (first | refine T.seq ?_ | refine T.region ?_ | refine TL.nil ?_ | refine N.next ?_ | refine N.inBlock ?_ | refine N.exit_same ?_ | refine N.exit_then ?_ | refine N.ret_then ?_ | refine N.ret_block ?_ | (apply N.exit_other; rfl) | refine T.ret ?_ | refine T.skip ?_ | refine T.exit ?_ | refine T.block ?_ | (apply T.cond_true; rfl) | (apply T.cond_false; rfl) | (apply T.test; rfl; (exact isx); intro _; rotate_left; intro _; rotate_right) | (apply TL.skip; rfl; rfl; rfl) | (apply TL.skip_none; rfl; rfl) | (apply TL.val; rfl; rfl; (apply V.makeFunc (vs := []) (us := [.pointer (some ⟨b5, 0, none⟩), .pointer (some ⟨b7, 0, none⟩)]) <;> rfl)) | (apply TL.val; rfl; rfl; (first | exact vpure | exact vread)) | (apply TL.x; rfl; rfl; (first | exact xgrow | exact xput); intro _ _) | (apply TL.guard; rfl; rfl; rfl; (exact isx); intro _; rotate_left; intro _; rotate_right)))
      all_goals (try (exfalso; omega))
      exact N.ret1 rfl (by (exact rvx)) fun w hst => ref_end (hl := []) hst (by (repeat (first | exact List.Sublist.refl _ | exact List.nil_sublist _ | apply List.Sublist.cons_cons | apply List.Sublist.cons))) ha1 z5 fun y => by rw [hosts_no fun j hj => hrel j hj (by omega)]
  · have hr : referR zone q a.c = noneR := by unfold referR; exact if_neg hb
    rw [hr]
    obtain ⟨v1, hv1⟩ : ∃ v, belowV a.cut zone = v := ⟨_, rfl⟩
    obtain ⟨v2, hv2⟩ : ∃ v, (underC q.name a.cut).1 = v := ⟨_, rfl⟩
    rw [hv1, hv2] at hb
    repeat (any_goals (first | refine T.seq ?_ | refine T.region ?_ | refine TL.nil ?_ | refine N.next ?_ | refine N.inBlock ?_ | refine N.exit_same ?_ | refine N.exit_then ?_ | refine N.ret_then ?_ | refine N.ret_block ?_ | (apply N.exit_other; rfl) | refine T.ret ?_ | refine T.skip ?_ | refine T.exit ?_ | refine T.block ?_ | (apply T.cond_true; rfl) | (apply T.cond_false; rfl) | (apply T.test; rfl; (exact isx); intro _; rotate_left; intro _; rotate_right) | (apply TL.skip; rfl; rfl; rfl) | (apply TL.skip_none; rfl; rfl) | (apply TL.x; rfl; rfl; (apply X.box (d := 4); rfl; rfl; rfl); intro b4 _; apply TL.frz 0; rfl; intro Hq z4 hleq) | (apply TL.x; rfl; rfl; (apply X.box (d := 5); rfl; rfl; rfl); intro b5 _; apply TL.frz 0; rfl; intro H1 z5 hle5; have y4 := z4.le hle5) | (apply TL.val; rfl; rfl; (apply V.load_H; rfl; rfl; rfl; first | exact z5 2 _ rfl | exact z5 1 _ rfl | exact y4 0 _ rfl)) | (apply TL.callE (f := 113) [strV a.cut, strV zone] Tryz.call113; (iterate 4 rfl); (exact fun _ hs => hv1 ▸ c_vbelow a.cut zone _ _ hs.sat ha.2.2 hz)) | (apply TL.callE (f := 40) [strV q.name, strV a.cut] Tryz.call40; (iterate 4 rfl); (exact fun _ hs => hv2 ▸ c_vunder q.name a.cut _ _ hs.sat hq.1 ha.2.2)) | (apply TL.x; rfl; rfl; (apply X.makeMap strV; rfl); intro bm _) | (apply TL.val; rfl; rfl; (first | exact vpure | exact vread)) | (apply TL.x; rfl; rfl; (first | exact xgrow | exact xput); intro _ _) | (apply TL.guard; rfl; rfl; rfl; (exact isx); intro _; rotate_left; intro _; rotate_right)))
    all_goals first
      | exact N.ret1 rfl (by (exact rvx)) fun w hst => ⟨(_, ⟨_, noneR⟩), ⟨⟨114, #[], rfl, Tryz.call114, fun x H' w hle hs hx => by rw [cap0]; exact c_ref1 hs⟩, rfl⟩, rfl, hst.fresh⟩
      | (exfalso; exact hb ⟨by assumption, by assumption⟩)
      | (exfalso; simp_all; done)
end Go.Proofs.YtpnoabbdcakjkaaGreatDoor
namespace Go.Proofs.YtpnoabbdcakjkaaGreatDoor
set_option linter.unusedVariables false
set_option linter.unusedSimpArgs false
open Go Go.RowKit
open Enc (enc)
set_option maxRecDepth 20000
/-- The rule of an answer. -/
def ruleF (zone : Bytes) (q : Question) (a : AnswerC) : SetC → Bool := if a.kind = 4 then referR zone q a else ruleC q a.kind
def takenF (zone : Bytes) (q : Question) (a : AnswerC) (s : SignedC) : Bool := (underC s.set.name zone).1 && ruleF zone q a s.set
def filterF (zone : Bytes) (q : Question) (a : AnswerC) : List SignedC × Int := if !(zoneV zone && questionOK q && answerOK a) then ([], 1) else if !(underC q.name zone).1 then ([], 0) else (a.sets.filter (takenF zone q a), 0)
set_option maxHeartbeats 4000000 in
theorem c_ruleOf (zone : Bytes) (q : Question) (a : Answer) (hk : 1 ≤ a.kind ∧ a.kind ≤ 7) (H : Hp) (w : World) (hs : Sat H w) (hz : LenOk zone) (hq : Enc.good H q) (ha : Enc.good H a) : Calls Tryz.prog 41 #[strV zone, .agg (enc q).toArray, .agg (enc a).toArray] w (RetF w H (fun g : Hp × RuleV => RuleGood g.1 g.2 ∧ g.2.p = ruleF zone q a.c) (fun g => g.2.v) (fun g => g.1)) := by
  obtain ⟨k, sets, cut⟩ := a
  simp only at hk ⊢
  refine T.enter (vs := [strV zone, .agg (enc q).toArray, .agg (enc (⟨k, sets, cut⟩ : Answer)).toArray]) (H := H) Tryz.func41 rfl rfl rfl hs ?_
  have hkk : k = 1 ∨ k = 2 ∨ k = 3 ∨ k = 4 ∨ k = 5 ∨ k = 6 ∨ k = 7 := by omega
  repeat (any_goals (first | refine T.seq ?_ | refine T.region ?_ | refine TL.nil ?_ | refine N.next ?_ | refine N.inBlock ?_ | refine N.exit_same ?_ | refine N.exit_then ?_ | refine N.ret_then ?_ | refine N.ret_block ?_ | (apply N.exit_other; rfl) | refine T.ret ?_ | refine T.skip ?_ | refine T.exit ?_ | refine T.block ?_ | (apply T.cond_true; rfl) | (apply T.cond_false; rfl) | (apply T.test; rfl; (exact isx); intro _; rotate_left; intro _; rotate_right) | (apply TL.skip; rfl; rfl; rfl) | (apply TL.skip_none; rfl; rfl) | (apply TL.val (d := 20); rfl; rfl; (exact vpure); rcases hkk with rfl | rfl | rfl | rfl | rfl | rfl | rfl) | (apply TL.x; rfl; rfl; (apply X.box (d := 4); rfl; rfl; rfl); intro b4 _; apply TL.frz 0; rfl; intro H1 z4 hle1; have hq1 := Enc.mono hle1 hq; have ha1 := Enc.mono hle1 ha) | (apply TL.x; rfl; rfl; (apply X.box (d := 5); rfl; rfl; rfl); intro b5 _) | (apply TL.val; rfl; rfl; (apply V.makeFunc (vs := []) (us := [.pointer (some ⟨b4, 0, none⟩)]) <;> rfl)) | (apply TL.val; rfl; rfl; (apply V.load_H_row; rfl; rfl; rfl; exact z4; rfl)) | (apply TL.x; rfl; rfl; (apply X.callFE (d := 16) (f := 75) [strV zone, .agg (enc q).toArray, .agg (enc (⟨k, sets, cut⟩ : Answer)).toArray] Tryz.call75; rfl; rfl; rfl; exact (fun _ hs => c_referral zone q ⟨k, sets, cut⟩ _ _ hs.sat hz hq1 ha1)); rintro ⟨H2, ⟨rv, rp⟩⟩ ⟨⟨hrg, hrp⟩, hle2⟩; simp only at hrg hrp hle2 ⊢; obtain ⟨F, cap, hrv, hcall, hrc⟩ := hrg; simp only at hrv hrc; subst hrv) | (apply TL.val; rfl; rfl; (apply V.buildArrQ; (iterate 6 rfl))) | (apply TL.x; rfl; rfl; (apply X.alloc (d := 8); rfl; rfl; rfl); intro b8 _) | (apply TL.val; rfl; rfl; (apply V.elemArrI (i := 1); (iterate 5 rfl); decide)) | (apply TL.val; rfl; rfl; (apply V.elemArrI (i := 2); (iterate 5 rfl); decide)) | (apply TL.val; rfl; rfl; (apply V.elemArrI (i := 3); (iterate 5 rfl); decide)) | (apply TL.val; rfl; rfl; (apply V.elemArrI (i := 4); (iterate 5 rfl); decide)) | (apply TL.val; rfl; rfl; (apply V.elemArrI (i := 5); (iterate 5 rfl); decide)) | (apply TL.val; rfl; rfl; (apply V.elemArrI (i := 6); (iterate 5 rfl); decide)) | (apply TL.val; rfl; rfl; (apply V.elemArrI (i := 7); (iterate 5 rfl); decide)) | (apply TL.val; rfl; rfl; (first | exact vpure | exact vread)) | (apply TL.x; rfl; rfl; (first | exact xgrow | exact xput); intro _ _) | (apply TL.guard; rfl; rfl; rfl; (exact isx); intro _; rotate_left; intro _; rotate_right)))
  · exact N.ret1 rfl (by (exact rvx)) fun w hst => ⟨(H2, ⟨_, dataR q⟩), ⟨⟨71, #[.pointer (some ⟨b4, 0, none⟩)], rfl, Tryz.call71, fun x H' w hle hs hx => by rw [cap1]; exact c_rule2 hs (z4.le (hle2.trans hle)) (Enc.mono (hle2.trans hle) hq1) hx⟩, rfl⟩, rfl, hst.fresh⟩
  · exact N.ret1 rfl (by (exact rvx)) fun w hst => ⟨(H2, ⟨_, wildR q⟩), ⟨⟨72, #[.pointer (some ⟨b4, 0, none⟩)], rfl, Tryz.call72, fun x H' w hle hs hx => by rw [cap1]; exact c_rule3 hs (z4.le (hle2.trans hle)) (Enc.mono (hle2.trans hle) hq1) hx⟩, rfl⟩, rfl, hst.fresh⟩
  · exact N.ret1 rfl (by (exact rvx)) fun w hst => ⟨(H2, ⟨_, aliasR q⟩), ⟨⟨74, #[.pointer (some ⟨b4, 0, none⟩)], rfl, Tryz.call74, fun x H' w hle hs hx => by rw [cap1]; exact c_rule4 hs (z4.le (hle2.trans hle)) (Enc.mono (hle2.trans hle) hq1) hx⟩, rfl⟩, rfl, hst.fresh⟩
  · exact N.ret1 rfl (by (exact rvx)) fun w hst => ⟨(H2, ⟨_, rp⟩), ⟨⟨F, cap, rfl, hcall, hrc⟩, by rw [hrp]; rfl⟩, rfl, hst.fresh⟩
  · exact N.ret1 rfl (by (exact rvx)) fun w hst => ⟨(H2, ⟨_, deniedR q⟩), ⟨⟨70, #[.pointer (some ⟨b4, 0, none⟩)], rfl, Tryz.call70, fun x H' w hle hs hx => by rw [cap1]; exact c_rule1 hs (z4.le (hle2.trans hle)) (Enc.mono (hle2.trans hle) hq1) hx⟩, rfl⟩, rfl, hst.fresh⟩
  · exact N.ret1 rfl (by (exact rvx)) fun w hst => ⟨(H2, ⟨_, deniedR q⟩), ⟨⟨70, #[.pointer (some ⟨b4, 0, none⟩)], rfl, Tryz.call70, fun x H' w hle hs hx => by rw [cap1]; exact c_rule1 hs (z4.le (hle2.trans hle)) (Enc.mono (hle2.trans hle) hq1) hx⟩, rfl⟩, rfl, hst.fresh⟩
  · exact N.ret1 rfl (by (exact rvx)) fun w hst => ⟨(H2, ⟨_, noneR⟩), ⟨⟨76, #[], rfl, Tryz.call76, fun x H' w hle hs hx => by rw [cap0]; exact c_rule5 hs⟩, rfl⟩, rfl, hst.fresh⟩
set_option maxHeartbeats 4000000 in
theorem c_Filter (zone : Bytes) (q : Question) (a : Answer) (H : Hp) (w : World) (hs : Sat H w) (hR : Rules H) (hz : LenOk zone) (hq : Enc.good H q) (ha : Enc.good H a) : Calls Tryz.prog 11 #[strV zone, .agg (enc q).toArray, .agg (enc a).toArray] w (RetF w H (fun g : Hp × Slc Signed => g.2.els.map Signed.c = (filterF zone q a.c).1 ∧ g.2.Good g.1 ∧ g.2.len ≤ 40) (fun g => .tuple #[g.2.v, intV (filterF zone q a.c).2]) (fun g => g.1)) := by
  refine T.enter (vs := [strV zone, .agg (enc q).toArray, .agg (enc a).toArray]) (H := H) Tryz.func11 rfl rfl rfl hs ?_
  cases h1 : zoneV zone with
  | false =>
    have hf : filterF zone q a.c = ([], 1) := by unfold filterF; rw [h1]; rfl
    repeat (any_goals (first | refine T.seq ?_ | refine T.region ?_ | refine TL.nil ?_ | refine N.next ?_ | refine N.inBlock ?_ | refine N.exit_same ?_ | refine N.exit_then ?_ | refine N.ret_then ?_ | refine N.ret_block ?_ | (apply N.exit_other; rfl) | refine T.ret ?_ | refine T.skip ?_ | refine T.exit ?_ | refine T.block ?_ | (apply T.cond_true; rfl) | (apply T.cond_false; rfl) | (apply T.test; rfl; (exact isx); intro _; rotate_left; intro _; rotate_right) | (apply TL.skip; rfl; rfl; rfl) | (apply TL.skip_none; rfl; rfl) | (apply TL.callE (f := 37) [strV zone] Tryz.call37; (iterate 4 rfl); (exact fun _ hs => h1 ▸ c_vzoneOK zone _ _ hs.sat hz)) | (apply TL.callE (f := 38) [.agg (enc q).toArray] Tryz.call38; (iterate 4 rfl); (exact fun _ hs => h2 ▸ c_vquestion q _ _ hs.sat hq)) | (apply TL.callE (f := 39) [.agg (enc a).toArray] Tryz.call39; (iterate 4 rfl); (exact fun _ hs => h3 ▸ c_vanswer a _ _ hs.sat hR ha)) | (apply TL.val; rfl; rfl; (first | exact vpure | exact vread)) | (apply TL.x; rfl; rfl; (first | exact xgrow | exact xput); intro _ _) | (apply TL.guard; rfl; rfl; rfl; (exact isx); intro _; rotate_left; intro _; rotate_right)))
    all_goals (try contradiction)
    all_goals (rw [hf]; exact N.ret2 rfl (by (exact rvx)) (by (exact rvx)) fun w hst => ⟨(H, Slc.nil _), ⟨rfl, Slc.nil_good, Nat.zero_le _⟩, rfl, hst.fresh⟩)
  | true =>
  cases h2 : questionOK q with
  | false =>
    have hf : filterF zone q a.c = ([], 1) := by unfold filterF; rw [h1, h2]; rfl
    repeat (any_goals (first | refine T.seq ?_ | refine T.region ?_ | refine TL.nil ?_ | refine N.next ?_ | refine N.inBlock ?_ | refine N.exit_same ?_ | refine N.exit_then ?_ | refine N.ret_then ?_ | refine N.ret_block ?_ | (apply N.exit_other; rfl) | refine T.ret ?_ | refine T.skip ?_ | refine T.exit ?_ | refine T.block ?_ | (apply T.cond_true; rfl) | (apply T.cond_false; rfl) | (apply T.test; rfl; (exact isx); intro _; rotate_left; intro _; rotate_right) | (apply TL.skip; rfl; rfl; rfl) | (apply TL.skip_none; rfl; rfl) | (apply TL.callE (f := 37) [strV zone] Tryz.call37; (iterate 4 rfl); (exact fun _ hs => h1 ▸ c_vzoneOK zone _ _ hs.sat hz)) | (apply TL.callE (f := 38) [.agg (enc q).toArray] Tryz.call38; (iterate 4 rfl); (exact fun _ hs => h2 ▸ c_vquestion q _ _ hs.sat hq)) | (apply TL.callE (f := 39) [.agg (enc a).toArray] Tryz.call39; (iterate 4 rfl); (exact fun _ hs => h3 ▸ c_vanswer a _ _ hs.sat hR ha)) | (apply TL.val; rfl; rfl; (first | exact vpure | exact vread)) | (apply TL.x; rfl; rfl; (first | exact xgrow | exact xput); intro _ _) | (apply TL.guard; rfl; rfl; rfl; (exact isx); intro _; rotate_left; intro _; rotate_right)))
    all_goals (try contradiction)
    all_goals (rw [hf]; exact N.ret2 rfl (by (exact rvx)) (by (exact rvx)) fun w hst => ⟨(H, Slc.nil _), ⟨rfl, Slc.nil_good, Nat.zero_le _⟩, rfl, hst.fresh⟩)
  | true =>
  cases h3 : answerOK a.c with
  | false =>
    have hf : filterF zone q a.c = ([], 1) := by unfold filterF; rw [h1, h2, h3]; rfl
    repeat (any_goals (first | refine T.seq ?_ | refine T.region ?_ | refine TL.nil ?_ | refine N.next ?_ | refine N.inBlock ?_ | refine N.exit_same ?_ | refine N.exit_then ?_ | refine N.ret_then ?_ | refine N.ret_block ?_ | (apply N.exit_other; rfl) | refine T.ret ?_ | refine T.skip ?_ | refine T.exit ?_ | refine T.block ?_ | (apply T.cond_true; rfl) | (apply T.cond_false; rfl) | (apply T.test; rfl; (exact isx); intro _; rotate_left; intro _; rotate_right) | (apply TL.skip; rfl; rfl; rfl) | (apply TL.skip_none; rfl; rfl) | (apply TL.callE (f := 37) [strV zone] Tryz.call37; (iterate 4 rfl); (exact fun _ hs => h1 ▸ c_vzoneOK zone _ _ hs.sat hz)) | (apply TL.callE (f := 38) [.agg (enc q).toArray] Tryz.call38; (iterate 4 rfl); (exact fun _ hs => h2 ▸ c_vquestion q _ _ hs.sat hq)) | (apply TL.callE (f := 39) [.agg (enc a).toArray] Tryz.call39; (iterate 4 rfl); (exact fun _ hs => h3 ▸ c_vanswer a _ _ hs.sat hR ha)) | (apply TL.val; rfl; rfl; (first | exact vpure | exact vread)) | (apply TL.x; rfl; rfl; (first | exact xgrow | exact xput); intro _ _) | (apply TL.guard; rfl; rfl; rfl; (exact isx); intro _; rotate_left; intro _; rotate_right)))
    all_goals (try contradiction)
    all_goals (rw [hf]; exact N.ret2 rfl (by (exact rvx)) (by (exact rvx)) fun w hst => ⟨(H, Slc.nil _), ⟨rfl, Slc.nil_good, Nat.zero_le _⟩, rfl, hst.fresh⟩)
  | true =>
  obtain ⟨hk, hl40, hsh⟩ := answerOK_short h3
  cases hu : (underC q.name zone).1 with
  | false =>
    have hf : filterF zone q a.c = ([], 0) := by unfold filterF; rw [h1, h2, h3, hu]; rfl
    repeat (any_goals (first | refine T.seq ?_ | refine T.region ?_ | refine TL.nil ?_ | refine N.next ?_ | refine N.inBlock ?_ | refine N.exit_same ?_ | refine N.exit_then ?_ | refine N.ret_then ?_ | refine N.ret_block ?_ | (apply N.exit_other; rfl) | refine T.ret ?_ | refine T.skip ?_ | refine T.exit ?_ | refine T.block ?_ | (apply T.cond_true; rfl) | (apply T.cond_false; rfl) | (apply T.test; rfl; (exact isx); intro _; rotate_left; intro _; rotate_right) | (apply TL.skip; rfl; rfl; rfl) | (apply TL.skip_none; rfl; rfl) | (apply TL.callE (f := 37) [strV zone] Tryz.call37; (iterate 4 rfl); (exact fun _ hs => h1 ▸ c_vzoneOK zone _ _ hs.sat hz)) | (apply TL.callE (f := 38) [.agg (enc q).toArray] Tryz.call38; (iterate 4 rfl); (exact fun _ hs => h2 ▸ c_vquestion q _ _ hs.sat hq)) | (apply TL.callE (f := 39) [.agg (enc a).toArray] Tryz.call39; (iterate 4 rfl); (exact fun _ hs => h3 ▸ c_vanswer a _ _ hs.sat hR ha)) | (apply TL.callE (f := 40) [strV q.name, strV zone] Tryz.call40; (iterate 4 rfl); (exact fun _ hs => hu ▸ c_vunder q.name zone _ _ hs.sat hq.1 hz)) | (apply TL.val; rfl; rfl; (first | exact vpure | exact vread)) | (apply TL.x; rfl; rfl; (first | exact xgrow | exact xput); intro _ _) | (apply TL.guard; rfl; rfl; rfl; (exact isx); intro _; rotate_left; intro _; rotate_right)))
    all_goals (try contradiction)
    all_goals (rw [hf]; exact N.ret2 rfl (by (exact rvx)) (by (exact rvx)) fun w hst => ⟨(H, Slc.nil _), ⟨rfl, Slc.nil_good, Nat.zero_le _⟩, rfl, hst.fresh⟩)
  | true =>
  have hf : filterF zone q a.c = (a.c.sets.filter (takenF zone q a.c), 0) := by unfold filterF; rw [h1, h2, h3, hu]; rfl
  rw [hf]
  have hgs := ha.2.1
  have hlen := hgs.len
  have hlim := hgs.lim
  repeat (any_goals (first | refine T.seq ?_ | refine T.region ?_ | refine TL.nil ?_ | refine N.next ?_ | refine N.inBlock ?_ | refine N.exit_same ?_ | refine N.exit_then ?_ | refine N.ret_then ?_ | refine N.ret_block ?_ | (apply N.exit_other; rfl) | refine T.ret ?_ | refine T.skip ?_ | refine T.exit ?_ | refine T.block ?_ | (apply T.cond_true; rfl) | (apply T.cond_false; rfl) | (apply T.test; rfl; (exact isx); intro _; rotate_left; intro _; rotate_right) | (apply TL.skip; rfl; rfl; rfl) | (apply TL.skip_none; rfl; rfl) | (apply TL.callE (f := 37) [strV zone] Tryz.call37; (iterate 4 rfl); (exact fun _ hs => h1 ▸ c_vzoneOK zone _ _ hs.sat hz)) | (apply TL.callE (f := 38) [.agg (enc q).toArray] Tryz.call38; (iterate 4 rfl); (exact fun _ hs => h2 ▸ c_vquestion q _ _ hs.sat hq)) | (apply TL.callE (f := 39) [.agg (enc a).toArray] Tryz.call39; (iterate 4 rfl); (exact fun _ hs => h3 ▸ c_vanswer a _ _ hs.sat hR ha)) | (apply TL.callE (f := 40) [strV q.name, strV zone] Tryz.call40; (iterate 4 rfl); (exact fun _ hs => hu ▸ c_vunder q.name zone _ _ hs.sat hq.1 hz)) | (apply TL.x; rfl; rfl; (apply X.callFE (d := 33) (f := 41) [strV zone, .agg (enc q).toArray, .agg (enc a).toArray] Tryz.call41; rfl; rfl; rfl; exact (fun _ hs => c_ruleOf zone q a hk _ _ hs.sat hz hq ha)); rintro ⟨H1, rv, rp⟩ ⟨⟨hrg, hrp⟩, hle1⟩; simp only at hrg hrp hle1 ⊢; obtain ⟨F, cap, hrv, hcall, hrc⟩ := hrg; simp only at hrv hrc; subst hrv) | (apply TL.val; rfl; rfl; (first | exact vpure | exact vread)) | (apply TL.x; rfl; rfl; (first | exact xgrow | exact xput); intro _ _) | (apply TL.guard; rfl; rfl; rfl; (exact isx); intro _; rotate_left; intro _; rotate_right)))
  all_goals (try contradiction)
  refine T.nilRow 69 5 ?_
  refine T.loop (G := Hp × List Signed × Value × Nat) (fun g => [(0, strV zone), (8, .func (.func F) #[] cap), (9, g.2.2.1), (35, .slice a.sets.A a.sets.len a.sets.cap), (36, intV a.sets.len), (37, intV g.2.2.2)]) (fun g => g.1) (fun g => [.row g.2.2.1 69 5 g.2.1.length (encs g.2.1)]) (fun g => H1.le g.1 ∧ g.2.2.2 ≤ a.sets.len ∧ g.2.1.length ≤ g.2.2.2 ∧ (∀ y ∈ g.2.1, Enc.good g.1 y) ∧ g.2.1.map Signed.c = (a.c.sets.take g.2.2.2).filter (takenF zone q a.c)) (fun g => a.sets.len - g.2.2.2) (H1, [], .slice none 0 0, 0) ⟨Hp.le.refl _, Nat.zero_le _, Nat.le_refl _, by simp, by simp⟩ (by (repeat (first | exact True.intro | refine ⟨rfl, ?_⟩ | refine Sub.int rfl (by omega) ?_))) rfl (by (repeat (first | exact List.Sublist.refl _ | exact List.nil_sublist _ | apply List.Sublist.cons_cons | apply List.Sublist.cons))) ?_
  rintro ⟨Hk, ys, yv, i⟩ ⟨hlek, hi, hyl, hyg, hys⟩
  simp only at hlek hi hyl hyg hys ⊢
  by_cases hlt : i < a.sets.len
  · have hk2 : i < a.sets.els.length := by omega
    have hgk := (hgs.mono hle1).mono hlek
    have hx := hgk.els _ (List.getElem_mem hk2)
    obtain ⟨hx1, hx2, hx3⟩ := hsh _ (List.getElem_mem hk2)
    have hxd : (a.sets.els[i]'hk2).set.data.len ≤ 1000 := by rw [← hx.1.2.2.2.len]; omega
    have hxs : (a.sets.els[i]'hk2).sigs.len ≤ 1000 := by rw [← hx.2.len]; omega
    have hci : a.c.sets[i]? = some (a.sets.els[i]'hk2).c := by
      show (a.sets.els.map Signed.c)[i]? = _
      rw [List.getElem?_map, List.getElem?_eq_getElem hk2]; rfl
    have htk : takenF zone q a.c (a.sets.els[i]'hk2).c = ((underC (a.sets.els[i]'hk2).set.name zone).1 && rp (a.sets.els[i]'hk2).set.c) := by rw [hrp]; rfl
    repeat (any_goals (first | refine T.seq ?_ | refine T.region ?_ | refine TL.nil ?_ | refine N.next ?_ | refine N.inBlock ?_ | refine N.exit_same ?_ | refine N.exit_then ?_ | refine N.ret_then ?_ | refine N.ret_block ?_ | (apply N.exit_other; rfl) | refine T.ret ?_ | refine T.skip ?_ | refine T.exit ?_ | refine T.block ?_ | (apply T.cond_true; rfl) | (apply T.cond_false; rfl) | (apply T.test; rfl; (exact isx); intro _; rotate_left; intro _; rotate_right) | (apply TL.skip; rfl; rfl; rfl) | (apply TL.skip_none; rfl; rfl) | (apply TL.x; rfl; rfl; (apply X.storeTo 0 (enc (a.sets.els[i]'hk2)); (iterate 10 rfl)); intro _ _) | (apply TL.callE (f := 40) [strV (a.sets.els[i]'hk2).set.name, strV zone] Tryz.call40; (iterate 4 rfl); (exact fun _ hs => c_vunder (a.sets.els[i]'hk2).set.name zone _ _ hs.sat hx.1.1 hz)) | (apply TL.call (d := 50) (f := F) (first := #[]) (cap := cap) (vs := [.agg (enc (a.sets.els[i]'hk2).set).toArray]); (iterate 4 rfl); exact hcall; exact fun _ hs => hrc _ _ _ hlek hs.sat hx.1) | (apply TL.x; rfl; rfl; (apply X.callFE (d := 54) (f := 42) [.agg (enc (a.sets.els[i]'hk2)).toArray] Tryz.call42; rfl; rfl; rfl; exact (fun _ hs => c_vcloned (a.sets.els[i]'hk2) _ _ hs.sat hx hxd hxs)); rintro ⟨H2, y⟩ ⟨⟨hyc, hy⟩, hle2⟩; simp only at hyc hy hle2 ⊢) | (apply TL.x; rfl; rfl; (apply X.buildSlice1 (d := 55); (iterate 8 rfl)); intro b55 _) | (apply TL.x; rfl; rfl; (apply X.append1 2; (iterate 9 rfl); exact List.Mem.head _; rfl; rfl; rfl; (refine Nat.le_trans (Nat.mul_le_mul_right _ (show _ ≤ 1000 by omega)) ?_; decide); omega); intro pa _) | (apply TL.val; rfl; rfl; (first | exact vpure | exact vread)) | (apply TL.x; rfl; rfl; (first | exact xgrow | exact xput); intro _ _) | (apply TL.guard; rfl; rfl; rfl; (exact isx); intro _; rotate_left; intro _; rotate_right)))
    all_goals (try (exfalso; omega))
    all_goals first
      | (have htt : takenF zone q a.c (a.sets.els[i]'hk2).c = true := by
           rw [htk, Bool.and_eq_true]
           exact ⟨by assumption, by assumption⟩
         refine N.round (H2, ys ++ [y], .slice (some ⟨pa.1, 0, none⟩) (ys.length + 1) pa.2, i + 1) ⟨hlek.trans hle2, by show i + 1 ≤ _; omega, by simp; omega, ?_, ?_⟩ (by show a.sets.len - (i + 1) < a.sets.len - i; omega) (by simp only [List.length_append, List.length_cons, List.length_nil]; (repeat (first | exact True.intro | refine ⟨rfl, ?_⟩ | refine Sub.int rfl (by omega) ?_))) rfl ?_
         · intro z hz
           rcases List.mem_append.1 hz with h | h
           · exact Enc.mono hle2 (hyg z h)
           · rw [List.mem_singleton.1 h]; exact hy
         · rw [filter_upQ hci, if_pos htt, List.map_append, hys]
           simp only [List.map_cons, List.map_nil, hyc]
         · simp only [List.length_append, List.length_cons, List.length_nil, Nat.zero_add, encs_snoc]
           exact List.Sublist.cons _ (List.Sublist.cons _ (List.Sublist.refl _)))
      | (have hnt : takenF zone q a.c (a.sets.els[i]'hk2).c = false := by
           rw [htk]
           first
             | rw [show (underC (a.sets.els[i]'hk2).set.name zone).1 = false by assumption, Bool.false_and]
             | rw [show rp (a.sets.els[i]'hk2).set.c = false by assumption, Bool.and_false]
         refine N.round (Hk, ys, yv, i + 1) ⟨hlek, by show i + 1 ≤ _; omega, by show ys.length ≤ i + 1; omega, hyg, ?_⟩ (by show a.sets.len - (i + 1) < a.sets.len - i; omega) (by (repeat (first | exact True.intro | refine ⟨rfl, ?_⟩ | refine Sub.int rfl (by omega) ?_))) rfl (List.Sublist.cons _ (List.Sublist.refl _))
         rw [filter_upQ hci, if_neg (by rw [hnt]; decide), List.append_nil]
         exact hys)
  · have hie : i = a.sets.len := by omega
    subst hie
    apply T.frzRow 0 (els := ys); rfl; rfl; rfl; exact hyg
    intro H3 sl e1 e2 e3 hle3
    subst e1
    repeat (any_goals (first | refine T.seq ?_ | refine T.region ?_ | refine TL.nil ?_ | refine N.next ?_ | refine N.inBlock ?_ | refine N.exit_same ?_ | refine N.exit_then ?_ | refine N.ret_then ?_ | refine N.ret_block ?_ | (apply N.exit_other; rfl) | refine T.ret ?_ | refine T.skip ?_ | refine T.exit ?_ | refine T.block ?_ | (apply T.cond_true; rfl) | (apply T.cond_false; rfl) | (apply T.test; rfl; (exact isx); intro _; rotate_left; intro _; rotate_right) | (apply TL.skip; rfl; rfl; rfl) | (apply TL.skip_none; rfl; rfl) | (apply TL.val; rfl; rfl; (first | exact vpure | exact vread)) | (apply TL.x; rfl; rfl; (first | exact xgrow | exact xput); intro _ _) | (apply TL.guard; rfl; rfl; rfl; (exact isx); intro _; rotate_left; intro _; rotate_right)))
    all_goals (try (exfalso; omega))
    refine N.ret2 rfl (by (exact rvx)) (by (exact rvx)) fun w hst => ⟨(H3, sl), ⟨?_, e3, ?_⟩, rfl, hst.fresh⟩
    · rw [e2, hys, List.take_of_length_le (by show (a.sets.els.map Signed.c).length ≤ _; rw [List.length_map]; omega)]
    · show sl.len ≤ 40
      rw [← e3.len, e2]; omega
end Go.Proofs.YtpnoabbdcakjkaaGreatDoor
