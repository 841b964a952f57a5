import Derived.Test.YtepljgpikfeklaaGreatDoorQNP
namespace Go.Proofs.YtepljgpikfeklaaGreatDoor
set_option linter.unusedVariables false
set_option linter.unusedSimpArgs false
open Go Go.RowKit
open Enc (enc)
set_option maxRecDepth 20000
def usableE (l : List Entry) (now : Int) : List Entry := l.filter fun e => decide (now < e.til)
theorem usableE_c (l : List Entry) (now : Int) : (usableE l now).map Entry.c = freshC (l.map Entry.c) now := by
  unfold usableE freshC
  rw [List.filter_map]; rfl
theorem c_usable22 (c : Cache) (now : Int) (H : Hp) (w : World) (hs : Sat H w) (hg : Enc.good H c) (hnow : I64 now) : Calls Tryz.prog 31 #[.agg (enc c).toArray, intV now] w (RetF w H (fun g : Hp × Nat × Nat => H.le g.1 ∧ g.1.cells g.2.1 0 (enc c) ∧ g.1.cells g.2.2 0 [intV now]) (fun g => .func (.func 62) #[] #[.pointer (some ⟨g.2.1, 0, none⟩), .pointer (some ⟨g.2.2, 0, none⟩)]) (fun g => g.1)) := by
  refine T.enter (vs := [.agg (enc c).toArray, intV now]) (H := H) Tryz.func31 rfl rfl rfl hs ?_
  repeat (any_goals (first | refine T.seq ?_ | refine T.region ?_ | refine TL.nil ?_ | refine N.next ?_ | refine T.ret ?_ | (apply TL.val; rfl; rfl; ((apply V.makeFunc (vs := []) (us := [_, _]) <;> rfl))) | (apply TL.val; rfl; rfl; (first | exact vpure | exact vread)) | (apply TL.x; rfl; rfl; (first | exact xgrow | exact xput); intro _ _)))
  apply N.ret1; rfl; (exact rvx)
  intro w1 hst
  rename_i b2 _ b3 _
  obtain ⟨H2, e1, e2, e3⟩ := St.frzBlk (α := Int) (els := [now]) (m := 1) hst rfl (by decide) (by intro x hx; simp at hx; rw [hx]; exact hnow)
  obtain ⟨H3, d1, d2, d3⟩ := St.frzBlk (α := Cache) (els := [c]) (m := 1) e3 rfl (by decide) (by intro x hx; simp at hx; rw [hx]; exact Enc.mono e2 hg)
  exact ⟨(H3, b2, b3), ⟨e2.trans d2, d1.all, (Slc.Good.mono e1 d2).all⟩, rfl, d3.fresh⟩
theorem filter_at {α : Type} {p : α → Bool} : ∀ {l : List α} {j : Nat} (hj : j < l.length), p l[j] = true → ∃ h : ((l.take j).filter p).length < (l.filter p).length, (l.filter p)[((l.take j).filter p).length] = l[j]
  | [], j, hj, _ => by simp at hj
  | x :: l, 0, _, hp => by
    have hp' : p x = true := hp
    have e : (x :: l).filter p = x :: l.filter p := by rw [List.filter_cons, if_pos hp']
    simp only [List.take_zero, List.filter_nil, List.length_nil, e]
    exact ⟨by simp, rfl⟩
  | x :: l, j + 1, hj, hp => by
    have hj' : j < l.length := by simpa using hj
    obtain ⟨h1, h2⟩ := filter_at hj' (p := p) hp
    rw [List.take_succ_cons]
    by_cases hx : p x = true
    · have e1 : (x :: l).filter p = x :: l.filter p := by rw [List.filter_cons, if_pos hx]
      have e2 : (x :: l.take j).filter p = x :: (l.take j).filter p := by rw [List.filter_cons, if_pos hx]
      simp only [e1, e2, List.length_cons]
      exact ⟨by omega, by simpa using h2⟩
    · have e1 : (x :: l).filter p = l.filter p := by rw [List.filter_cons, if_neg hx]
      have e2 : (x :: l.take j).filter p = (l.take j).filter p := by rw [List.filter_cons, if_neg hx]
      simp only [e1, e2]
      exact ⟨h1, by simpa using h2⟩
set_option maxHeartbeats 2000000 in
theorem c_usable1 (c : Cache) (now : Int) (bc bn : Nat) {Hc : Hp} (hc : Hc.cells bc 0 (enc c)) (hn : Hc.cells bn 0 [intV now]) (hg : Enc.good Hc c) (hb : Short c.list.els) {G : Type} (Φ : Nat → G → Prop) (Φs : G → Prop) (HH : G → Hp) (LL : G → List Loc) {w0 : World} {H0 : Hp} {rl : Nat} (hle : ∀ k g, Φ k g → Hc.le (HH g))
    (hy : ∀ k g, Φ k g → ∀ (h : k < (usableE c.list.els now).length) (H' : Hp) (y : Entry), (HH g).le H' → y.c = (usableE c.list.els now)[k].c → Enc.good H' y → ∀ w, St w0 H0 H' (LL g) w → YieldAt (FW none) 0 Tryz.prog rl #[.agg (enc y).toArray] w (fun e w' => ∃ b g', e = .returned (.bool b) ∧ (if b = true then Φ (k + 1) g' else Φs g') ∧ St w0 H0 (HH g') (LL g') w'))
    (g0 : G) (h0 : Φ 0 g0) {w : World} (hs : St w0 H0 (HH g0) (LL g0) w) :
    CallsIn (FW none) 0 Tryz.prog 62 #[.func (.yield rl) #[] #[], .pointer (some ⟨bc, 0, none⟩), .pointer (some ⟨bn, 0, none⟩)] w (fun e w' => ∃ v g, e = .returned v ∧ (Φ (usableE c.list.els now).length g ∨ Φs g) ∧ St w0 H0 (HH g) (LL g) w') := by
  have hg' : c.list.Good Hc := hg
  have hlen := hg'.len
  have hlim := hg'.lim
  have hle0 := hle 0 g0 h0
  have hc0 : (HH g0).cells bc 0 (enc c) := Hp.cells_le hle0 hc
  refine T.enterIn (vs := [.func (.yield rl) #[] #[], .pointer (some ⟨bc, 0, none⟩), .pointer (some ⟨bn, 0, none⟩)]) Tryz.func62 rfl rfl rfl hs ?_
  repeat (any_goals (first | refine T.seq ?_ | refine T.region ?_ | refine TL.nil ?_ | refine N.next ?_ | refine T.block ?_ | (apply TL.val; rfl; rfl; (apply V.load_H; rfl; rfl; rfl; exact hc0 0 _ rfl)) | (apply TL.val; rfl; rfl; (first | exact vpure | exact vread))))
  refine T.loop (G := Nat × G) (fun p => [(0, .func (.yield rl) #[] #[]), (1, .pointer (some ⟨bc, 0, none⟩)), (2, .pointer (some ⟨bn, 0, none⟩)), (7, c.list.v), (8, intV c.list.len), (9, intV p.1)]) (fun p => HH p.2) (fun p => LL p.2) (fun p => p.1 ≤ c.list.len ∧ Φ ((c.list.els.take p.1).filter (fun e => decide (now < e.til))).length p.2) (fun p => c.list.len - p.1) (0, g0) ⟨Nat.zero_le _, h0⟩ (by (repeat (first | exact True.intro | refine ⟨rfl, ?_⟩ | refine Sub.int rfl (by omega) ?_))) rfl (by (first | exact List.Sublist.refl _ | exact List.nil_sublist _ | exact List.Sublist.cons _ (List.Sublist.refl _) | exact List.Sublist.cons _ (List.Sublist.cons _ (List.Sublist.refl _)))) ?_
  rintro ⟨j, g⟩ ⟨hj, hΦ⟩
  simp only at hj hΦ ⊢
  have hleg := hle _ g hΦ
  have hn1 : (HH g).cells bn 0 [intV now] := Hp.cells_le hleg hn
  have hg1 : c.list.Good (HH g) := hg'.mono hleg
  by_cases hlt : j < c.list.len
  · have hjl : j < c.list.els.length := by omega
    have hge := hg1.el hlt
    obtain ⟨hb1, hb2⟩ := hb c.list.els[j] (List.getElem_mem hjl)
    have htk : (c.list.els.take (j + 1)).filter (fun e => decide (now < e.til)) = (c.list.els.take j).filter (fun e => decide (now < e.til)) ++ if decide (now < c.list.els[j].til) = true then [c.list.els[j]] else [] := filter_take _ hjl
    by_cases hu : now < c.list.els[j].til
    · obtain ⟨hk, hk2⟩ := filter_at (p := fun e : Entry => decide (now < e.til)) hjl (decide_eq_true hu)
      rw [if_pos (decide_eq_true hu)] at htk
      have hY := fun (p : Hp × Entry) (h1 : (HH g).le p.1) (h2 : p.2.c = c.list.els[j].c) (h3 : Enc.good p.1 p.2) => hy _ g hΦ hk p.1 p.2 h1 (by rw [h2]; exact congrArg Entry.c hk2.symm) h3
      repeat (any_goals (first | refine T.seq ?_ | refine T.region ?_ | refine TL.nil ?_ | refine N.next ?_ | refine N.inBlock ?_ | refine N.exit_same ?_ | refine N.exit_then ?_ | refine N.ret_then ?_ | refine N.ret_block ?_ | refine T.ret ?_ | refine T.skip ?_ | refine T.exit ?_ | refine T.block ?_ | (apply T.cond_false; rfl) | (apply T.test; rfl; (exact isx); intro _; rotate_left; intro _; rotate_right) | (apply TL.skip; rfl; rfl; rfl) | (apply TL.x; rfl; rfl; (apply X.storeTo 0 (enc c.list.els[j]); (iterate 10 rfl)); intro _ _) | (apply TL.val; rfl; rfl; (apply V.load_H; rfl; rfl; rfl; exact hn1 0 _ rfl)) | (apply TL.x; rfl; rfl; (apply X.callFE (f := 61) [.agg (enc c.list.els[j]).toArray] Tryz.call61; rfl; rfl; rfl; exact (fun _ hs => c_cloneEntry c.list.els[j] _ _ hs.sat hge hb1 hb2)); intro p hp) | (apply TL.yield; (iterate 4 rfl); (exact fun w hs => hY p hp.2 hp.1.1 hp.1.2 w (hs.sub (List.sublist_cons_self _ _))); intro b g' hb) | (apply TL.val; rfl; rfl; (first | exact vpure | exact vread)) | (apply TL.x; rfl; rfl; (first | exact xgrow | exact xput); intro _ _) | (apply TL.guard; rfl; rfl; rfl; (exact isx); intro _; rotate_left; intro _; rotate_right)))
      all_goals (try (exfalso; omega))
      · rename_i hbf
        rw [hbf] at hb
        exact N.ret0 rfl fun w hs => ⟨_, g', rfl, .inr hb, hs⟩
      · rename_i hbt
        rw [hbt] at hb
        refine N.round (j + 1, g') ⟨by show j + 1 ≤ _; omega, by show Φ _ g'; rw [htk, List.length_append]; exact hb⟩ (by show c.list.len - (j + 1) < c.list.len - j; omega) (by (repeat (first | exact True.intro | refine ⟨rfl, ?_⟩ | refine Sub.int rfl (by omega) ?_))) rfl (by (first | exact List.Sublist.refl _ | exact List.nil_sublist _ | exact List.Sublist.cons _ (List.Sublist.refl _) | exact List.Sublist.cons _ (List.Sublist.cons _ (List.Sublist.refl _))))
    · rw [if_neg (by simpa using hu), List.append_nil] at htk
      repeat (any_goals (first | refine T.seq ?_ | refine T.region ?_ | refine TL.nil ?_ | refine N.next ?_ | refine N.inBlock ?_ | refine N.exit_same ?_ | refine N.exit_then ?_ | refine T.skip ?_ | refine T.exit ?_ | refine T.block ?_ | (apply T.cond_false; rfl) | (apply T.test; rfl; (exact isx); intro _; rotate_left; intro _; rotate_right) | (apply TL.skip; rfl; rfl; rfl) | (apply TL.x; rfl; rfl; (apply X.storeTo 0 (enc c.list.els[j]); (iterate 10 rfl)); intro _ _) | (apply TL.val; rfl; rfl; (apply V.load_H; rfl; rfl; rfl; exact hn1 0 _ rfl)) | (apply TL.val; rfl; rfl; (first | exact vpure | exact vread)) | (apply TL.x; rfl; rfl; (first | exact xgrow | exact xput); intro _ _) | (apply TL.guard; rfl; rfl; rfl; (exact isx); intro _; rotate_left; intro _; rotate_right)))
      all_goals (try (exfalso; omega))
      refine N.round (j + 1, g) ⟨by show j + 1 ≤ _; omega, by show Φ _ g; rw [htk]; exact hΦ⟩ (by show c.list.len - (j + 1) < c.list.len - j; omega) (by (repeat (first | exact True.intro | refine ⟨rfl, ?_⟩ | refine Sub.int rfl (by omega) ?_))) rfl (by (first | exact List.Sublist.refl _ | exact List.nil_sublist _ | exact List.Sublist.cons _ (List.Sublist.refl _) | exact List.Sublist.cons _ (List.Sublist.cons _ (List.Sublist.refl _))))
  · repeat (any_goals (first | refine T.seq ?_ | refine T.region ?_ | refine TL.nil ?_ | refine N.next ?_ | refine N.exit_same ?_ | refine N.exit_then ?_ | refine T.skip ?_ | refine T.exit ?_ | refine T.block ?_ | (apply T.test; rfl; (exact isx); intro _; rotate_left; intro _; rotate_right) | (apply TL.val; rfl; rfl; (first | exact vpure | exact vread)) | (apply TL.x; rfl; rfl; (first | exact xgrow | exact xput); intro _ _)))
    all_goals (try (exfalso; omega))
    refine N.end0 rfl fun w hs => ⟨_, g, rfl, .inl ?_, hs⟩
    have : c.list.els.take j = c.list.els := List.take_of_length_le (by omega)
    rw [this] at hΦ
    exact hΦ
end Go.Proofs.YtepljgpikfeklaaGreatDoor
namespace Go.Proofs.YtepljgpikfeklaaGreatDoor
set_option linter.unusedVariables false
set_option linter.unusedSimpArgs false
open Go Go.RowKit
open Enc (enc)
set_option maxRecDepth 20000
section
variable {P : Program} {w0 : World} {H0 H : Hp} {env : List (Nat × Value)} {L : List Loc}
theorem yieldAt_ofG {G : Type} {m : Nat} {fn : FuncId} {a : Act} {ps : Array Tmp} {assign body : Code} {b i j : Nat} {vs : Array Value} {w : World} {R : Ending → World → Prop} (E : G → List (Nat × Value)) (LL : G → List Loc) (hs : St w0 H0 H L w) (hi : L[i]? = some (.any (b + 1) (.loop (recd fn a.tmps ps assign body b .ready none)))) (hj : ∀ g, (LL g)[j]? = some (.any (b + 1) (.loop (recd fn a.tmps ps assign body b .ready none)))) (hsz : vs.size = ps.size)
    (env₀ : List (Nat × Value)) (hE : ∀ tmps : Array Value, tmps = (ps.zip vs).foldl (fun t (p, v) => t.setIfInBounds p v) a.tmps → Fr ⟨m, [], some (b + 1)⟩ env₀ { tmps := tmps, defers := [] })
    (hassign : T P ⟨m, [], some (b + 1)⟩ w0 H0 assign (Exit.then (fun a w => ∃ g, Fr ⟨m, [], some (b + 1)⟩ (E g) a ∧ St w0 H0 H (LL g) w) (fun _ _ _ => False)) env₀ H L)
    (hbody : ∀ g, T P ⟨m, [], some (b + 1)⟩ w0 H0 body (roundPost P (b + 1) R) (E g) H ((LL g).set j (.any (b + 1) (.loop (recd fn a.tmps ps assign body b .busy none))))) : YieldAt (FW none) 0 P (b + 1) vs w R := by
  have hrec := (hs.ok _ (List.mem_of_getElem? hi)).2
  have hy := run_yield (P := P) (args := vs) hrec (by simpa [recd] using hsz)
  refine ⟨fn, _, assign, body, hy, roundIn_of_wpIn trivial (wpIn_mono (hassign.out _ w (hE _ rfl) hs) ?_)⟩
  rintro e a₁ w₁ hq
  cases e with
  | normal =>
    obtain ⟨g, hf1, hs1⟩ := hq
    have hrec1 := (hs1.ok _ (List.mem_of_getElem? (hj g))).2
    refine ⟨_, run_beginRound hrec1 rfl, (hbody g).out _ _ hf1 ?_⟩
    exact hs1.putObj (.loop (recd fn a.tmps ps assign body b .busy none)) (hj g)
  | exit id => exact hq
  | goto l => exact hq
  | ret => exact hq
  | panic c => exact hq
  | outgrown => exact hq
theorem N.bothG {G : Type} {kk : FK} (g : G) {E : G → List (Nat × Value)} {LL : G → List Loc} {Q' : Exit → Act → World → Prop} (h : Sub (E g) env) (hl : List.Sublist (LL g) L) : N kk w0 H0 (Exit.then (fun a w => ∃ g, Fr kk (E g) a ∧ St w0 H0 H (LL g) w) Q') .normal env H L := ⟨fun _ _ hf hs => ⟨g, hf.sub h, hs.sub hl⟩⟩
end
def Lists (w : World) (H : Hp) (r : List SignedC × Int) : Ending → World → Prop := RetF w H (fun g : Hp × Slc Signed => g.2.els.map Signed.c = r.1 ∧ g.2.Good g.1) (fun g => .tuple #[g.2.v, intV r.2]) (fun g => g.1)
theorem known_no {l : List EntryC} {now : Int} (h : ¬ (cacheOK l = true ∧ (0 ≤ now ∧ now ≤ 20000000))) : knownC l now = ([], 1) := by
  unfold knownC isT
  rw [if_pos]
  simp only [Bool.not_eq_true', Bool.eq_false_iff, ne_eq, Bool.and_eq_true, decide_eq_true_eq]
  grind
theorem known_yes {l : List EntryC} {now : Int} (h1 : cacheOK l = true) (h2 : 0 ≤ now ∧ now ≤ 20000000) : knownC l now = (((freshC l now).filter fun e => !denial e).map (·.signed), 0) := by
  unfold knownC isT
  rw [if_neg (by rw [h1, decide_eq_true h2]; decide)]
def setsUp (l : List Entry) (k : Nat) : List SignedC := (((l.take k).map Entry.c).filter fun e => !denial e).map (·.signed)
theorem sets_up {l : List Entry} {k : Nat} (hk : k < l.length) : setsUp l (k + 1) = setsUp l k ++ if denial l[k].c = true then [] else [l[k].c.signed] := by
  unfold setsUp
  rw [List.take_succ_eq_append_getElem hk, List.map_append, List.filter_append, List.map_append]
  congr 1
  rw [List.map_cons, List.map_nil, List.filter_cons]
  cases denial l[k].c <;> rfl
set_option maxHeartbeats 4000000 in
theorem c_Known (c : Cache) (now : Int) (H : Hp) (w : World) (hs : Sat H w) (hR : Rules H) (hg : Enc.good H c) (hnow : I64 now) : Calls Tryz.prog 10 #[.agg (enc c).toArray, intV now] w (Lists w H (knownC c.c now)) := by
  refine T.enterM (vs := [.agg (enc c).toArray, intV now]) (H := H) Tryz.func10 rfl rfl rfl hs ?_
  cases hok : cacheOK c.c with
  | false =>
    repeat (any_goals (first | refine T.seq ?_ | refine T.region ?_ | refine TL.nil ?_ | refine N.next ?_ | refine N.ret_then ?_ | refine T.ret ?_ | (apply T.cond_true; rfl) | (apply TL.skip; rfl; rfl; rfl) | (apply TL.call0 (f := 25) Tryz.call25; rfl; rfl; rfl; (exact fun _ hs => c_validV c hok hs.sat hR hg)) | (apply TL.val; rfl; rfl; (first | exact vpure | exact vread)) | (apply TL.x; rfl; rfl; (first | exact xgrow | exact xput); intro _ _)))
    refine N.bare (N.ret2 rfl (by (exact rvx)) (by (exact rvx)) fun w hst => ?_)
    rw [known_no (by rintro ⟨e1, _⟩; rw [hok] at e1; cases e1)]
    exact ⟨(H, Slc.nil _), ⟨rfl, Slc.nil_good⟩, rfl, hst.fresh⟩
  | true =>
    have hm := cache_len hg hok
    have hb := short_of_ok hg hok
    have hlen : c.list.els.length = c.list.len := Slc.Good.len hg
    have hul : (usableE c.list.els now).length ≤ c.list.len := by rw [← hlen]; exact List.length_filter_le _ _
    repeat (any_goals (first | refine T.seq ?_ | refine T.region ?_ | refine TL.nil ?_ | refine N.next ?_ | refine N.ret_then ?_ | refine T.ret ?_ | refine T.skip ?_ | refine T.block ?_ | (apply T.test; rfl; (exact isx); intro _; rotate_left; intro _; rotate_right) | (apply TL.call0 (f := 25) Tryz.call25; rfl; rfl; rfl; (exact fun _ hs => c_validV c hok hs.sat hR hg)) | (apply TL.call0 (f := 28) Tryz.call28; rfl; rfl; rfl; (exact fun _ hs => c_ctime _ _ _ hs.sat)) | (apply TL.x; rfl; rfl; (apply X.callFE (f := 31) [.agg (enc c).toArray, intV now] Tryz.call31; rfl; rfl; rfl; exact (fun _ hs => c_usable22 c now _ _ hs.sat hg hnow)); rintro ⟨Hc, bc, bn⟩ ⟨⟨hp0, hp1, hp2⟩, hp3⟩) | (apply TL.val; rfl; rfl; (first | exact vpure | exact vread)) | (apply TL.x; rfl; rfl; (first | exact xgrow | exact xput); intro _ _)))
    · refine N.bare (N.ret2 rfl (by (exact rvx)) (by (exact rvx)) fun w hst => ?_)
      rw [known_no (by rintro ⟨_, e2⟩; contradiction)]
      exact ⟨(H, Slc.nil _), ⟨rfl, Slc.nil_good⟩, rfl, hst.fresh⟩
    · rename_i b2 _ hnow2 b6 _
      rw [known_yes hok hnow2]
      obtain ⟨us, hus⟩ : ∃ us, usableE c.list.els now = us := ⟨_, rfl⟩
      refine T.nilRow 44 5 ?_
      refine T.rangeFunc (G := Hp × List Signed × Value) (fun _ => .normal) (fun g => g.1) (fun g => [.row g.2.2 44 5 g.2.1.length (encs g.2.1), .blk b6 34 [g.2.2]]) (fun g => g.2.1.map Signed.c = setsUp us us.length ∧ ∀ x ∈ g.2.1, Enc.good g.1 x) rfl Tryz.call62 (fun _ _ => trivial) ?_ ?_
      · intro fn a b hf w1 hs1
        have hs1' := hs1.sub (L' := [.any (b + 1) (.loop (recd fn a.tmps _ _ _ b .ready none)), .any b (.deferred (some [])), .row (.slice none 0 0) 44 5 0 [], .blk b6 34 [.slice none 0 0]]) (.cons_cons _ (.cons_cons _ (.cons_cons _ (.cons_cons _ (List.nil_sublist _)))))
        refine (c_usable1 c now bc bn hp1 hp2 (Enc.mono hp0 hg) hb (G := Hp × List Signed × Value) (fun k g => g.2.1.map Signed.c = setsUp us k ∧ (∀ x ∈ g.2.1, Enc.good g.1 x) ∧ g.2.1.length ≤ k ∧ Hc.le g.1) (fun _ => False) (fun g => g.1) (fun g => [.any (b + 1) (.loop (recd fn a.tmps _ _ _ b .ready none)), .any b (.deferred (some [])), .row g.2.2 44 5 g.2.1.length (encs g.2.1), .blk b6 34 [g.2.2]]) (fun k g h => h.2.2.2) ?_ (Hc, [], .slice none 0 0) ⟨rfl, by simp, Nat.zero_le _, .refl _⟩ hs1').mono ?_
        · rintro k ⟨Hg, got, v⟩ ⟨hg1, hg2, hg3, hg4⟩ hk H' y hle hyc hgy w2 hs2
          simp only at hg1 hg2 hg3 hg4 hle hs2
          have hkl : k < us.length := by rw [← hus]; exact hk
          have hyk : y.c = us[k].c := by rw [hyc]; simp only [hus]
          have hup := sets_up hkl
          rw [← hyk] at hup
          have hyl := hgy.1.1.2.2.2.len
          have hdn : denial y.c = decide (y.signed.set.data.len = 0) := by
            unfold denial
            refine decide_eq_decide.2 ?_
            show y.signed.set.data.els = [] ↔ _
            rw [← hyl]; exact List.length_eq_zero_iff.symm
          have hk4 : k < 400 := by have : us.length ≤ c.list.len := by rw [← hus]; exact hul
                                   omega
          refine yieldAt_ofG (j := 1) (G := Nat) (fun b7 => [(6, .pointer (some ⟨b6, 0, none⟩)), (7, .pointer (some ⟨b7, 0, none⟩))]) (fun b7 => [.blk b7 82 (enc y), .any (b + 1) (.loop (recd fn a.tmps _ _ _ b .ready none)), .any b (.deferred (some [])), .row v 44 5 got.length (encs got), .blk b6 34 [v]]) (i := 0) hs2 rfl (fun _ => rfl) rfl _ (Fr.round1 hf rfl) ?_ ?_
          · repeat (any_goals (first | refine T.region ?_ | refine TL.nil ?_ | (apply TL.x; rfl; rfl; (apply X.storeTo 0 (enc y); (iterate 10 rfl)); intro _ _) | (apply TL.x; rfl; rfl; (first | exact xgrow | exact xput); intro _ _)))
            rename_i b7 _ _ _
            exact N.bothG b7 (by (repeat (first | exact True.intro | refine ⟨rfl, ?_⟩ | refine Sub.int rfl (by omega) ?_))) (List.Sublist.refl _)
          · intro b7
            simp only [List.set_cons_succ, List.set_cons_zero]
            repeat (any_goals (first | refine T.seq ?_ | refine T.region ?_ | refine TL.nil ?_ | refine N.next ?_ | refine N.inBlock ?_ | refine T.skip ?_ | refine T.block ?_ | (apply T.test; rfl; (exact isx); intro _; rotate_left; intro _; rotate_right) | (apply TL.x; rfl; rfl; (apply X.append1 4; (iterate 9 rfl); exact List.Mem.head _; rfl; rfl; rfl; (refine Nat.le_trans (Nat.mul_le_mul_left _ (show _ ≤ 1000 by decide)) ?_; show (got.length + 1) * 1000 ≤ _; omega); (show got.length + 1 ≤ _; omega)); intro p2 _) | (apply TL.val; rfl; rfl; (first | exact vpure | exact vread)) | (apply TL.x; rfl; rfl; (first | exact xgrow | exact xput); intro _ _)))
            · have hd : denial y.c = false := by rw [hdn]; exact decide_eq_false (by omega)
              rename_i p2 _ _ _ _
              refine N.round_out (i := 2) (e := .normal) trivial rfl fun w hs => ⟨true, (H', got ++ [y.signed], .slice (some ⟨p2.1, 0, none⟩) (got.length + 1) p2.2), rfl, ?_, ?_⟩
              · rw [if_pos rfl]
                refine ⟨?_, fun x hx => ?_, ?_, hg4.trans hle⟩
                · show (got ++ [y.signed]).map Signed.c = setsUp us (k + 1)
                  rw [hup, hd, List.map_append, hg1]; rfl
                · rcases List.mem_append.1 hx with hx | hx
                  · exact Enc.mono hle (hg2 x hx)
                  · rw [List.mem_singleton] at hx
                    subst hx
                    exact hgy.1
                · show (got ++ [y.signed]).length ≤ k + 1
                  rw [List.length_append]
                  show got.length + 1 ≤ k + 1
                  omega
              · show St _ _ H' [.any (b + 1) (.loop (recd fn a.tmps _ _ _ b .ready none)), .any b (.deferred (some [])), .row (.slice (some ⟨p2.1, 0, none⟩) (got.length + 1) p2.2) 44 5 (got ++ [y.signed]).length (encs (got ++ [y.signed])), .blk b6 34 [.slice (some ⟨p2.1, 0, none⟩) (got.length + 1) p2.2]] w
                rw [List.length_append, encs_snoc]
                exact hs.sub (.cons _ (.cons _ (List.Sublist.refl _)))
            · have hd : denial y.c = true := by rw [hdn]; exact decide_eq_true (by omega)
              refine N.round_out (i := 1) (e := .normal) trivial rfl fun w hs => ⟨true, (H', got, v), rfl, ?_, ?_⟩
              · rw [if_pos rfl]
                exact ⟨by show got.map Signed.c = setsUp us (k + 1); rw [hup, hd, hg1]; simp, fun x hx => Enc.mono hle (hg2 x hx), Nat.le_succ_of_le hg3, hg4.trans hle⟩
              · exact hs.sub (.cons _ (List.Sublist.refl _))
        · rintro e w2 ⟨v, g, rfl, (hΦ | hF), hs2⟩
          · rw [hus] at hΦ
            exact ⟨g, v, .ready, rfl, ⟨hΦ.1, hΦ.2.1⟩, by simp, hs2⟩
          · exact hF.elim
      · rintro b ⟨Hg, got, v⟩ ⟨hg1, hg2⟩
        show N _ _ _ _ .normal _ _ _
        repeat (any_goals (first | refine T.seq ?_ | refine T.region ?_ | refine TL.nil ?_ | refine N.next ?_ | refine N.inBlock ?_ | refine T.ret ?_ | (apply TL.val; rfl; rfl; (first | exact vpure | exact vread))))
        refine N.marked (i := 0) rfl (N.ret2 rfl (by (exact rvx)) (by (exact rvx)) fun w hst => ?_)
        obtain ⟨H', s, e1, e2, e3, e4, e5⟩ := (hst.sub (L' := [.row v 44 5 got.length (encs got)]) (.cons _ (.cons_cons _ (List.nil_sublist _)))).freezeRow rfl rfl hg2
        refine ⟨(H', s), ⟨?_, e3⟩, ?_, e5.fresh⟩
        · show s.els.map Signed.c = _
          rw [e2]
          have hg1' : got.map Signed.c = setsUp us us.length := hg1
          rw [hg1']
          unfold setsUp
          rw [List.take_length, ← hus, usableE_c]
          rfl
        · rw [← e1]
end Go.Proofs.YtepljgpikfeklaaGreatDoor
namespace Go.Proofs.YtepljgpikfeklaaGreatDoor
set_option linter.unusedVariables false
set_option linter.unusedSimpArgs false
open Go Go.RowKit
open Enc (enc)
set_option maxRecDepth 20000
def Gets (w : World) (H : Hp) (r : EntryC × Bool × Int) : Ending → World → Prop := RetF w H (fun g : Hp × Entry => g.2.c = r.1 ∧ Enc.good g.1 g.2) (fun g => .tuple #[.agg (enc g.2).toArray, .bool r.2.1, intV r.2.2]) (fun g => g.1)
theorem get_no {l : List EntryC} {q : Question} {now : Int} (h : ¬ (cacheOK l = true ∧ questionOK q = true ∧ (0 ≤ now ∧ now ≤ 20000000))) : getC l q now = (entryNil, false, 1) := by
  unfold getC isT
  rw [if_pos]
  simp only [Bool.not_eq_true', Bool.eq_false_iff, ne_eq, Bool.and_eq_true, decide_eq_true_eq]
  grind
theorem get_some {l : List EntryC} {q : Question} {now : Int} {e : EntryC} (h1 : cacheOK l = true) (h2 : questionOK q = true) (h3 : 0 ≤ now ∧ now ≤ 20000000) (h : l.find? (asks q now) = some e) : getC l q now = (e, true, 0) := by
  unfold getC isT
  rw [if_neg (by rw [h1, h2, decide_eq_true h3]; decide), h]
theorem get_none {l : List EntryC} {q : Question} {now : Int} (h1 : cacheOK l = true) (h2 : questionOK q = true) (h3 : 0 ≤ now ∧ now ≤ 20000000) (h : l.find? (asks q now) = none) : getC l q now = (entryNil, false, 0) := by
  unfold getC isT
  rw [if_neg (by rw [h1, h2, decide_eq_true h3]; decide), h]
def fitsQ (q : Question) (e : Entry) : Prop := e.signed.set.name = q.name ∧ e.signed.set.typ = q.typ
theorem asks_usable {l : List Entry} {q : Question} {now : Int} {e : Entry} (he : e ∈ usableE l now) : asks q now e.c = true ↔ fitsQ q e := by
  have h1 : now < e.til := by
    have := (List.mem_filter.1 he).2
    simpa using this
  unfold asks fitsQ
  have e1 : e.c.til = e.til := rfl
  have e2 : e.c.signed.set.name = e.signed.set.name := rfl
  have e3 : e.c.signed.set.typ = e.signed.set.typ := rfl
  rw [e1, e2, e3, decide_eq_true h1]
  simp
theorem find_usable (l : List Entry) (q : Question) (now : Int) : ((usableE l now).map Entry.c).find? (asks q now) = (l.map Entry.c).find? (asks q now) := by
  rw [usableE_c]; exact find_fresh (Int.le_refl _)
theorem found_at {l : List Entry} {q : Question} {now : Int} {k : Nat} (hk : k < (usableE l now).length) (h : ∀ j (hj : j < (usableE l now).length), j < k → ¬ fitsQ q (usableE l now)[j]) (hf : fitsQ q (usableE l now)[k]) : (l.map Entry.c).find? (asks q now) = some (usableE l now)[k].c := by
  rw [← find_usable, List.find?_eq_some_iff_getElem]
  refine ⟨(asks_usable (List.getElem_mem hk)).2 hf, k, by rw [List.length_map]; exact hk, List.getElem_map _, fun j hj => ?_⟩
  rw [List.getElem_map, Bool.not_eq_true', Bool.eq_false_iff]
  intro ha
  exact h j (by omega) hj ((asks_usable (List.getElem_mem _)).1 ha)
theorem found_no {l : List Entry} {q : Question} {now : Int} (h : ∀ j (hj : j < (usableE l now).length), ¬ fitsQ q (usableE l now)[j]) : (l.map Entry.c).find? (asks q now) = none := by
  rw [← find_usable, List.find?_eq_none]
  intro x hx ha
  obtain ⟨e, he, rfl⟩ := List.mem_map.1 hx
  obtain ⟨j, hj, rfl⟩ := List.mem_iff_getElem.1 he
  exact h j hj ((asks_usable (List.getElem_mem _)).1 ha)
def getL (b4 b6 b7 b8 : Nat) (q : Question) : Option Entry → List Loc
  | none => [.blk b8 39 [intV 0], .blk b7 4 [.bool false], .blk b6 82 (enc zeroEntry), .blk b4 56 (enc q)]
  | some y => [.blk b8 39 [intV 0], .blk b7 4 [.bool true], .blk b6 82 (enc y), .blk b4 56 (enc q)]
def getLL (rd : LoopState → Option Code → Loop) (b b4 b6 b7 b8 : Nat) (q : Question) : Option Entry → List Loc
  | none => .any (b + 1) (.loop (rd .ready none)) :: .any b (.deferred (some [])) :: getL b4 b6 b7 b8 q none
  | some y => .any (b + 1) (.loop (rd .done (some .ret))) :: .any b (.deferred (some [])) :: getL b4 b6 b7 b8 q (some y)
def GotQ (l : List EntryC) (q : Question) (now : Int) (H : Hp) : Option Entry → Prop
  | none => l.find? (asks q now) = none
  | some y => Enc.good H y ∧ l.find? (asks q now) = some y.c
set_option maxHeartbeats 4000000 in
theorem c_Get (c : Cache) (q : Question) (now : Int) (H : Hp) (w : World) (hs : Sat H w) (hR : Rules H) (hg : Enc.good H c) (hq : Enc.good H q) (hnow : I64 now) : Calls Tryz.prog 70 #[.agg (enc c).toArray, .agg (enc q).toArray, intV now] w (Gets w H (getC c.c q now)) := by
  refine T.enterM (vs := [.agg (enc c).toArray, .agg (enc q).toArray, intV now]) (H := H) Tryz.func70 rfl rfl rfl hs ?_
  repeat (any_goals (first | refine T.seq ?_ | refine T.region ?_ | refine TL.nil ?_ | refine N.next ?_ | refine N.ret_then ?_ | refine T.ret ?_ | refine T.skip ?_ | refine T.block ?_ | (apply T.cond_true; rfl) | (apply T.test; rfl; (exact isx); intro _; rotate_left; intro _; rotate_right) | (apply TL.skip; rfl; rfl; rfl) | (apply TL.call0 (f := 25) Tryz.call25; rfl; rfl; rfl; (exact fun _ hs => c_cacheValid c _ _ hs.sat hR hg)) | (apply TL.call0 (f := 123) Tryz.call123; rfl; rfl; rfl; (exact fun _ hs => c_cquestion q _ _ hs.sat hq)) | (apply TL.call0 (f := 28) Tryz.call28; rfl; rfl; rfl; (exact fun _ hs => c_ctime _ _ _ hs.sat)) | (apply TL.val; rfl; rfl; (apply V.build; (iterate 6 rfl))) | (apply TL.x; rfl; rfl; (apply X.callFE (f := 31) [.agg (enc c).toArray, intV now] Tryz.call31; rfl; rfl; rfl; exact (fun _ hs => c_usable22 c now _ _ hs.sat hg hnow)); rintro ⟨Hc, bc, bn⟩ ⟨⟨hp0, hp1, hp2⟩, hp3⟩) | (apply TL.val; rfl; rfl; (first | exact vpure | exact vread)) | (apply TL.x; rfl; rfl; (first | exact xgrow | exact xput); intro _ _) | (apply TL.guard; rfl; rfl; rfl; (exact isx); intro _; rotate_left; intro _; rotate_right)))
  all_goals first
    | (refine N.bare (N.ret3 rfl (by (exact rvx)) (by (exact rvx)) (by (exact rvx)) fun w hst => ?_)
       rw [get_no (by simp [*])]
       exact ⟨(H, zeroEntry), ⟨rfl, zeroEntry_good H⟩, rfl, hst.fresh⟩)
    | skip
  rename_i b3 _ b4 _ b6 _ b7 _ b8 _ o1 o2 o3
  have hm := cache_len hg o1
  have hb := short_of_ok hg o1
  refine T.rangeFunc (G := Hp × Option Entry) (fun g => if g.2.isSome = true then .ret else .normal) (fun g => g.1) (fun g => getL b4 b6 b7 b8 q g.2) (fun g => GotQ c.c q now g.1 g.2) rfl Tryz.call62 (fun g _ => by obtain ⟨_, _ | _⟩ := g <;> trivial) ?_ ?_
  · intro fn a b hf w1 hs1
    have hs1' := hs1.sub (L' := getLL (recd fn a.tmps _ _ _ b) b b4 b6 b7 b8 q none) (.cons_cons _ (.cons_cons _ (.cons_cons _ (.cons_cons _ (.cons_cons _ (.cons_cons _ (List.nil_sublist _)))))))
    refine (c_usable1 c now bc bn hp1 hp2 (Enc.mono hp0 hg) hb (G := Hp × Option Entry) (fun k g => g.2 = none ∧ Hc.le g.1 ∧ ∀ j (hj : j < (usableE c.list.els now).length), j < k → ¬ fitsQ q (usableE c.list.els now)[j]) (fun g => ∃ y, g.2 = some y ∧ GotQ c.c q now g.1 g.2) (fun g => g.1) (fun g => getLL (recd fn a.tmps _ _ _ b) b b4 b6 b7 b8 q g.2) (fun k g h => h.2.1) ?_ (Hc, none) ⟨rfl, .refl _, fun j _ h => by omega⟩ hs1').mono ?_
    · rintro k ⟨Hg, o⟩ ⟨rfl, hg2, hg3⟩ hk H' y hle hyc hgy w2 hs2
      simp only at hg2 hg3 hle hs2
      have hfit : fitsQ q y ↔ fitsQ q (usableE c.list.els now)[k] := by
        have h1 : y.signed.set.name = (usableE c.list.els now)[k].signed.set.name := congrArg (fun e : EntryC => e.signed.set.name) hyc
        have h2 : y.signed.set.typ = (usableE c.list.els now)[k].signed.set.typ := congrArg (fun e : EntryC => e.signed.set.typ) hyc
        unfold fitsQ
        rw [h1, h2]
      refine yieldAt_ofG (j := 1) (G := Nat) (fun b9 => [(4, .pointer (some ⟨b4, 0, none⟩)), (6, .pointer (some ⟨b6, 0, none⟩)), (7, .pointer (some ⟨b7, 0, none⟩)), (8, .pointer (some ⟨b8, 0, none⟩)), (9, .pointer (some ⟨b9, 0, none⟩))]) (fun b9 => .blk b9 82 (enc y) :: getLL (recd fn a.tmps _ _ _ b) b b4 b6 b7 b8 q none) (i := 0) hs2 rfl (fun _ => rfl) rfl _ (Fr.round1 hf rfl) ?_ ?_
      · repeat (any_goals (first | refine T.region ?_ | refine TL.nil ?_ | (apply TL.x; rfl; rfl; (apply X.storeTo 0 (enc y); (iterate 10 rfl)); intro _ _) | (apply TL.x; rfl; rfl; (first | exact xgrow | exact xput); intro _ _)))
        rename_i b9 _ _ _
        exact N.bothG b9 (by (repeat (first | exact True.intro | refine ⟨rfl, ?_⟩ | refine Sub.int rfl (by omega) ?_))) (List.Sublist.refl _)
      · intro b9
        simp only [getLL, getL, List.set_cons_succ, List.set_cons_zero]
        repeat (any_goals (first | refine T.seq ?_ | refine T.region ?_ | refine TL.nil ?_ | refine N.next ?_ | refine N.inBlock ?_ | refine N.ret_block ?_ | refine T.ret ?_ | refine T.skip ?_ | refine T.block ?_ | (apply T.cond_false; rfl) | (apply T.test; rfl; (exact isx); intro _; rotate_left; intro _; rotate_right) | (apply TL.skip; rfl; rfl; rfl) | (apply TL.x; rfl; rfl; (apply X.storeTo 5 (enc y); (iterate 10 rfl)); intro _ _) | (apply TL.val; rfl; rfl; (first | exact vpure | exact vread)) | (apply TL.x; rfl; rfl; (first | exact xgrow | exact xput); intro _ _) | (apply TL.guard; rfl; rfl; rfl; (exact isx); intro _; rotate_left; intro _; rotate_right)))
        · refine N.round_out (i := 1) (e := .ret) trivial rfl fun w hs => ⟨false, (H', some y), rfl, ?_, hs.sub (List.sublist_cons_self _ _)⟩
          rw [if_neg (by simp)]
          refine ⟨y, rfl, hgy, ?_⟩
          have := found_at hk hg3 (hfit.1 ⟨by assumption, by assumption⟩)
          rw [hyc]
          exact this
        all_goals
          refine N.round_out (i := 1) (e := .normal) trivial rfl fun w hs => ⟨true, (H', none), rfl, ?_, hs.sub (List.sublist_cons_self _ _)⟩
          rw [if_pos rfl]
          refine ⟨rfl, hg2.trans hle, fun j hj hjk => ?_⟩
          by_cases e : j = k
          · subst e
            rw [← hfit]
            rintro ⟨f1, f2⟩
            contradiction
          · exact hg3 j hj (by omega)
    · rintro e w2 ⟨v, ⟨Hg, o⟩, rfl, (⟨ho, hle, hΦ⟩ | ⟨y, ho, hgot⟩), hs2⟩
      · simp only at ho
        subst ho
        exact ⟨(Hg, none), v, .ready, rfl, found_no fun j hj => hΦ j hj hj, by simp, hs2⟩
      · simp only at ho
        subst ho
        exact ⟨(Hg, some y), v, .done, rfl, hgot, by simp, hs2⟩
  · rintro b ⟨Hg, o⟩ hgot
    cases o with
    | none =>
      show N _ _ _ _ .normal _ _ _
      simp only [getL]
      repeat (any_goals (first | refine T.seq ?_ | refine T.region ?_ | refine TL.nil ?_ | refine N.next ?_ | refine N.inBlock ?_ | refine T.ret ?_ | (apply TL.val; rfl; rfl; (apply V.build; (iterate 6 rfl))) | (apply TL.x; rfl; rfl; (first | exact xgrow | exact xput); intro _ _)))
      refine N.marked (i := 0) rfl (N.ret3 rfl (by (exact rvx)) (by (exact rvx)) (by (exact rvx)) fun w hst => ?_)
      rw [get_none o1 o2 o3 hgot]
      exact ⟨(Hg, zeroEntry), ⟨rfl, zeroEntry_good Hg⟩, rfl, hst.fresh⟩
    | some y =>
      show N _ _ _ _ .ret _ _ _
      simp only [getL]
      repeat (any_goals (first | refine N.ret_then ?_ | refine N.ret_block ?_))
      refine N.marked (i := 0) rfl (N.ret3 rfl (by (exact rvx)) (by (exact rvx)) (by (exact rvx)) fun w hst => ?_)
      rw [get_some o1 o2 o3 hgot.2]
      exact ⟨(Hg, y), ⟨rfl, hgot.1⟩, rfl, hst.fresh⟩
end Go.Proofs.YtepljgpikfeklaaGreatDoor
