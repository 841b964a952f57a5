import Derived.Test.YthabgdbhgcgemaaGreatDoorQBL
import Derived.Test.YthabgdbhgcgemaaGreatDoorQBLay
import Derived.Test.YthabgdbhgcgemaaGreatDoorQZV
namespace Go.Proofs.YthabgdbhgcgemaaGreatDoor
set_option linter.unusedVariables false
set_option linter.unusedSimpArgs false
open Go Go.RowKit
open Enc (enc)
set_option maxRecDepth 20000
section
variable {P : Program} {n : FK} {w0 w w' : World} {H0 H : Hp} {Q : Exit → Act → World → Prop} {env : List (Nat × Value)} {L L' : List Loc}
theorem T.rowEq {c : Code} (i : Nat) {v : Value} {e : TypeId} {size m : Nat} {xs : List Value} (size' m' : Nat) (xs' : List Value) (hi : L[i]? = some (.row v e size m xs)) (h1 : size = size') (h2 : m = m') (h3 : xs = xs') (h : T P n w0 H0 c Q env H (L.set i (.row v e size' m' xs'))) : T P n w0 H0 c Q env H L := by
  subst h1 h2 h3
  rw [set_same hi] at h
  exact h
end
def SgZ : Type := {s : Signed // nameOK s.set.name = true}
instance : Inhabited SgZ := ⟨⟨⟨⟨[46], 0, 0, Slc.nil _⟩, Slc.nil _⟩, by decide⟩⟩
instance : Enc SgZ where
  size := 5
  enc s := enc s.1
  good H s := Enc.good H s.1
  len _ := rfl
  mono hle h := Enc.mono hle h
  one s := Enc.one s.1
  pos := by decide
theorem encs_sgz (l : List SgZ) : encs l = encs (l.map (·.1)) := by
  induction l with
  | nil => rfl
  | cons x t ih => show enc x.1 ++ encs t = _; rw [ih]; rfl
def cfS (a b : SgZ) : Int := cmpQQ (placeV a.1) (placeV b.1)
theorem cfS_ord (a b : SgZ) : cfS a b = ordSet a.1.c.set b.1.c.set := cmpQQ_set (a := a.1.c) (b := b.1.c) a.2 b.2
theorem ltS (a b : SgZ) : ltOf cfS a b = true ↔ cfS a b < 0 := by unfold ltOf; rw [decide_eq_true_iff]
theorem ltS_no (a b : SgZ) : ltOf cfS a b = false ↔ ¬ cfS a b < 0 := by unfold ltOf; rw [decide_eq_false_iff_not]
theorem swoS : Go.Sort.SWO (ltOf cfS) where
  irrefl x := by rw [ltS_no]; unfold cfS; rw [cmpQQ_self]; decide
  trans x y z h1 h2 := by
    rw [ltS, cfS_ord] at *
    exact ordSet_trans h1 h2
  ntrans x y z h1 h2 := by
    rw [ltS_no] at *
    intro h
    have hf : cfS y x = -cfS x y := cmpQQ_flip _ _
    by_cases e : cfS x y = 0
    · have hp : placeV x.1 = placeV y.1 := cmpQQ_zero x.2 y.2 e
      unfold cfS at h h2
      rw [hp] at h
      exact h2 h
    · have h3 : cfS y x < 0 := by omega
      rw [cfS_ord] at h h3
      have := ordSet_trans h3 h
      rw [← cfS_ord] at this
      exact h2 this
theorem toSgZ : ∀ {l : List Signed}, (∀ x ∈ l, nameOK x.set.name = true) → ∃ m : List SgZ, m.map (·.1) = l
  | [], _ => ⟨[], rfl⟩
  | x :: t, h => by
    obtain ⟨m, hm⟩ := toSgZ (l := t) fun y hy => h y (List.mem_cons_of_mem _ hy)
    exact ⟨⟨x, h x (List.mem_cons_self ..)⟩ :: m, congrArg (x :: ·) hm⟩
section
variable {H : Hp} {w : World}
theorem c_dcomparing (hs : Sat H w) : Calls Tryz.prog 115 #[.func (.func 105) #[] #[]] w (RetF w H (fun p : Hp × Nat => p.1.cells p.2 0 [.func (.func 105) #[] #[]]) (fun p => .func (.func 140) #[] #[.pointer (some ⟨p.2, 0, none⟩)]) (fun p => p.1)) := by
  refine T.enter (vs := [.func (.func 105) #[] #[]]) (H := H) Tryz.func115 rfl rfl rfl hs ?_
  repeat (any_goals (first | refine T.seq ?_ | refine T.region ?_ | refine TL.nil ?_ | refine N.next ?_ | refine T.ret ?_ | (apply TL.x; rfl; rfl; (apply X.box (d := 1) (cs := [.func (.func 105) #[] #[]]); rfl; rfl; rfl); intro b1 _; apply TL.frzZ 0; rfl; intro H1 z1 hle1) | (apply TL.val; rfl; rfl; ((apply V.makeFunc (vs := []) (us := [.pointer (some ⟨b1, 0, none⟩)]) <;> rfl))) | (apply TL.val; rfl; rfl; (first | exact vpure | exact vread))))
  exact N.ret1 rfl (by (exact rvx)) fun w1 hst => ⟨(H1, b1), z1, rfl, hst.fresh⟩
set_option maxHeartbeats 2000000 in
theorem c_dcomparing1 (x y : Signed) (bb : Nat) (hx : nameOK x.set.name = true) (hy : nameOK y.set.name = true) {r : Int} (hr : cmpQQ (placeV x) (placeV y) = r) (hs : Sat H w) (hb : H.cells bb 0 [.func (.func 105) #[] #[]]) : Calls Tryz.prog 140 #[sgV x, sgV y, .pointer (some ⟨bb, 0, none⟩)] w (Ret w (intV r)) := by
  refine T.enter (vs := [sgV x, sgV y, .pointer (some ⟨bb, 0, none⟩)]) (H := H) Tryz.func140 rfl rfl rfl hs ?_
  repeat (any_goals (first | refine T.seq ?_ | refine T.region ?_ | (apply T.regionD wide; rfl) | refine TL.nil ?_ | refine N.next ?_ | refine T.ret ?_ | (apply TL.x; rfl; rfl; (apply X.box (d := 3) (cs := enc x); rfl; rfl; rfl); intro b3 _) | (apply TL.x; rfl; rfl; (apply X.box (d := 4) (cs := enc y); rfl; rfl; rfl); intro b4 _) | (apply GT.read; (iterate 4 rfl); (apply V.load_H; rfl; rfl; rfl; exact hb 0 _ rfl); decide +kernel) | (apply GT.call (vs := [sgV x]); (iterate 6 rfl); exact Tryz.call105; exact fun _ hs => c_dplace x hs.sat; decide +kernel) | (apply GT.call (vs := [sgV y]); (iterate 6 rfl); exact Tryz.call105; exact fun _ hs => c_dplace y hs.sat; decide +kernel) | (apply GT.callE (f := 138) [qV (placeV x), qV (placeV y)] Tryz.call138; (iterate 6 rfl); (exact fun _ hs => c_dcomparePlaces (placeV x) (placeV y) hx hy hr hs.sat); decide +kernel) | (apply TL.val; rfl; rfl; (first | exact vpure | exact vread)) | (apply GT.pure; (iterate 4 rfl); (first | exact vpure); decide +kernel) | (apply GT.read; (iterate 4 rfl); (first | exact vpure | exact vread); decide +kernel) | (apply GT.done; decide +kernel; apply N.ofQ)))
  all_goals exact N.ret_int rfl (by (exact rvx)) rfl
end
section
variable {w0 w : World} {H0 H : Hp} {LL : List Loc}
theorem c_sortSg (bb : Nat) (hbb : H.cells bb 0 [.func (.func 105) #[] #[]]) {v : Value} {xs : List Signed} (hn : ∀ x ∈ xs, nameOK x.set.name = true) (hs : St w0 H0 H LL w) (i : Nat) (hi : LL[i]? = some (.row v 86 5 xs.length (encs xs))) (hlen : xs.length ≤ 40000) :
    CallsIn (FW none) 0 Tryz.prog 114 [v, .func (.func 140) #[] #[.pointer (some ⟨bb, 0, none⟩)]].toArray w (fun e' w' => ∃ ys : List Signed, (ys.Perm xs ∧ ys.Pairwise fun x y => ¬ cmpQQ (placeV y) (placeV x) < 0) ∧ e' = .returned (.tuple #[]) ∧ St w0 H0 H (LL.set i (.row v 86 5 ys.length (encs ys))) w') := by
  obtain ⟨m, rfl⟩ := toSgZ hn
  rw [← encs_sgz, List.length_map] at hi
  refine callsFW ((c_sortKC (α := SgZ) laySg Tryz.isAgg86 Tryz.sizeOf86 cfS swoS 140 [.pointer (some ⟨bb, 0, none⟩)] Tryz.call140 (fun x y W hW => c_dcomparing1 x.1 y.1 bb x.2 y.2 rfl hW hbb) hs i hi (by rw [List.length_map] at hlen; omega)).mono fun e' w' ⟨ys, h, he, hst⟩ => ⟨ys.map (·.1), ⟨h.perm.map _, ?_⟩, he, ?_⟩)
  · rw [List.pairwise_map]
    exact h.ord.imp fun {a b} hab => (ltS_no b a).1 hab
  · rw [← encs_sgz, List.length_map]
    exact hst
end
section
variable {H : Hp} {w : World}
def goesUp (put : List Signed) (drop : List Question) : List (Question × Signed) := plPairs put ++ drop.map fun q => (q, zeroS)
theorem goes_none {put : List Signed} {drop : List Question} {q : Question} : (gFindS q (goesUp put drop)).isSome = decide (q ∈ put.map placeV ∨ q ∈ drop) := by
  rw [gFindS_isSome]
  unfold goesUp
  rw [List.map_append, plPairs_keys, List.map_map]
  have : drop.map ((fun p : Question × Signed => p.1) ∘ fun q => (q, zeroS)) = drop := by
    have e : ((fun p : Question × Signed => p.1) ∘ fun q => (q, zeroS)) = id := rfl
    rw [e, List.map_id]
  rw [this]
  exact decide_eq_decide.2 List.mem_append
theorem stay_eq (lz lp : List Signed) (drop : List Question) : (lz.filter fun x => !(gFindS (placeV x) (goesUp lp drop)).isSome).map Signed.c = stayD (lz.map Signed.c) drop (lp.map Signed.c) := by
  unfold stayD
  rw [List.filter_map]
  congr 1
  refine List.filter_congr fun x _ => ?_
  rw [goes_none]
  have e : (lp.map Signed.c).map placeC = lp.map placeV := by rw [List.map_map]; rfl
  simp only [Function.comp, e, placeV_c]
  by_cases h1 : placeV x ∈ lp.map placeV <;> by_cases h2 : placeV x ∈ drop <;> simp [h1, h2]
set_option maxHeartbeats 16000000 in
theorem c_Apply (z : ZoneV) (b : ZoneC) (d : DeltaV) (ha : ZonedR z.c) (hb : ZonedR b) (hap : z.apex = b.apex) (hd : DeltaOK z.c b d) (hbef : beforeS (serialC z.c) (serialC b) = true) (hs : Sat H w) (hR : Rules H) (hgz : Enc.good H z) (hgd : Enc.good H d) : Calls Tryz.prog 64 #[.agg (enc z).toArray, .agg (enc d).toArray] w (RetF w H (fun p : Hp × ZoneV => p.2.c = b ∧ Enc.good p.1 p.2) (fun p => .tuple #[.agg (enc p.2).toArray, intV 0]) (fun p => p.1)) := by
  have hform := form_of ha hb hbef hd
  obtain ⟨hd1, hd2, hd3, hd4, hd5⟩ := hd
  obtain ⟨n, hn⟩ : ∃ n, serialC z.c = n := ⟨_, rfl⟩
  obtain ⟨m, hm⟩ : ∃ m, serialC b = m := ⟨_, rfl⟩
  rw [hn] at hd2
  rw [hm] at hd3
  have hd1 : d.apex = z.apex := hd1
  have hzl : z.sets.len ≤ 20000 := by have := ha.one.few; rw [setsC_len] at this; have := hgz.2.len; omega
  have hpl : d.put.els.length = d.put.len := hgd.2.2.2.2.len
  have hpl2 : d.put.len ≤ 20000 := by have := hform.putLen; rw [List.length_map] at this; omega
  have hdl : d.drop.els.length = d.drop.len := hgd.2.2.2.1.len
  have hdl2 : d.drop.len ≤ 20000 := by have := hform.dropLen; omega
  have hup : (d.put.els.map placeV).Nodup := by
    have := ordQ_nodup hform.putOrd
    rw [List.map_map] at this
    exact this
  have hnd := ordQ_nodup hform.dropOrd
  have hapart : ∀ s ∈ d.put.els, placeV s ∉ d.drop.els := fun s hs => hform.apart _ (List.mem_map.2 ⟨s, hs, rfl⟩)
  have hsm : ∀ x ∈ d.put.els, nameOK x.set.name = true ∧ x.set.data.len ≤ 1000 ∧ x.sigs.len ≤ 1000 := fun x hx => by
    have hxm : x.c ∈ putD z.c.sets b.sets := by rw [← hd5]; exact List.mem_map.2 ⟨x, hx, rfl⟩
    have hxb := (mem_putD.1 hxm).1
    obtain ⟨j, hj, he⟩ := List.mem_iff_getElem.1 hxb
    obtain ⟨h1, _, h3, _⟩ := setOK_all (hb.one.setAt hxb)
    have h2 := (hb.five j hj).1
    rw [he] at h2
    have hxg := hgd.2.2.2.2.els x hx
    have h4 := hxg.1.2.2.2.len
    have h5 := hxg.2.len
    have h3 : x.set.data.els.length ≤ 8 := h3.2
    have h6 : x.sigs.els.length ≤ 6 := by
      unfold sigsForm at h2
      simp only [Bool.and_eq_true, decide_eq_true_eq] at h2
      exact h2.1.1
    exact ⟨h1, by omega, by omega⟩
  refine T.enter (vs := [.agg (enc z).toArray, .agg (enc d).toArray]) (H := H) Tryz.func64 rfl rfl rfl hs ?_
  repeat (any_goals (first | refine T.seq ?_ | refine T.region ?_ | refine TL.nil ?_ | refine N.next ?_ | refine T.skip ?_ | refine T.block ?_ | (apply T.test; rfl; (exact isx); intro _; rotate_left; intro _; rotate_right) | (apply TL.x; rfl; rfl; (apply X.box (d := 2) (cs := enc z); rfl; rfl; rfl); intro b2 _) | (apply TL.x; rfl; rfl; (apply X.box (d := 3) (cs := enc d); rfl; rfl; rfl); intro b3 _) | (apply TL.x; rfl; rfl; (apply X.alloc (d := 4); rfl; rfl; rfl); intro b4 _) | (apply TL.callE (f := 26) [.agg (enc z).toArray] Tryz.call26; (iterate 4 rfl); (exact fun _ hs => c_zoneSerial z ha hn hs.sat hR hgz)) | (apply TL.callE (f := 112) [.agg (enc d).toArray] Tryz.call112; (iterate 4 rfl); (exact fun _ hs => c_dinForm d hform hs.sat hR hgd)) | (apply TL.x; rfl; rfl; (apply X.callO0 (f := 102) Tryz.call102; rfl; rfl; exact fun _ hs => c_byPlace d.put hup hs.sat hgd.2.2.2.2); intro bm _) | (apply TL.x; rfl; rfl; (apply X.alloc (d := 8); rfl; rfl; rfl); intro b8 _) | (apply TL.x; rfl; rfl; (apply X.storeTo 0 [.map (some bm)]; (iterate 10 rfl)); intro _ _) | (apply TL.val; rfl; rfl; (first | exact vpure | exact vread))))
  all_goals (try contradiction)
  all_goals (try (exact absurd hd1.symm (by assumption)))
  all_goals (try (exact absurd hd2.symm (by assumption)))
  refine T.loop (G := Nat) (fun k => [(2, .pointer (some ⟨b2, 0, none⟩)), (3, .pointer (some ⟨b3, 0, none⟩)), (4, .pointer (some ⟨b4, 0, none⟩)), (8, .pointer (some ⟨b8, 0, none⟩)), (43, d.drop.v), (44, intV d.drop.len), (45, intV k)]) (fun _ => H) (fun k => [.blk b8 154 [.map (some bm)], .any bm (mObj qV (sgEnts (goesUp d.put.els (d.drop.els.take k)))), .blk b4 32 (enc ZoneV.nil), .blk b3 122 (enc d), .blk b2 32 (enc z)]) (fun k => k ≤ d.drop.len) (fun k => d.drop.len - k) 0 (Nat.zero_le _) (by (repeat (first | exact True.intro | refine ⟨rfl, ?_⟩ | refine Sub.int rfl (by omega) ?_))) rfl (by (try simp only [goesUp, List.take_zero, List.map_nil, List.append_nil, ← plEnts_eq]); exact List.Sublist.refl _) ?_
  intro k hk
  by_cases hlt : k < d.drop.len
  · have hkl : k < d.drop.els.length := by omega
    have hg4 := hgd.2.2.2.1
    have hrow := hg4.row (k := k) hlt
    have hnew : ∀ p ∈ sgEnts (goesUp d.put.els (d.drop.els.take k)), p.1 ≠ d.drop.els[k] := fun p hp e => by
      obtain ⟨q, hq, rfl⟩ := List.mem_map.1 hp
      rcases List.mem_append.1 hq with hq | hq
      · obtain ⟨s, hsm, rfl⟩ := List.mem_map.1 hq
        exact hapart s hsm (by rw [show placeV s = d.drop.els[k] from e]; exact List.getElem_mem hkl)
      · obtain ⟨y, hy, rfl⟩ := List.mem_map.1 hq
        obtain ⟨j, hj, rfl⟩ := List.mem_take_iff_getElem.1 hy
        exact List.pairwise_iff_getElem.1 hnd j k (by omega) hkl (by omega) e
    have hupg : sgEnts (goesUp d.put.els (d.drop.els.take (k + 1))) = sgEnts (goesUp d.put.els (d.drop.els.take k)) ++ [(d.drop.els[k], sgV zeroS)] := by
      unfold goesUp sgEnts
      rw [List.take_succ_eq_append_getElem hkl]
      simp only [List.map_append, List.map_cons, List.map_nil, List.append_assoc]
    obtain ⟨x, hx⟩ : ∃ x, d.drop.els[k]'hkl = x := ⟨_, rfl⟩
    rw [hx] at hnew hupg
    try rw [hx] at hrow
    obtain ⟨es, hes⟩ : ∃ es, sgEnts (goesUp d.put.els (d.drop.els.take k)) = es := ⟨_, rfl⟩
    rw [hes] at hnew hupg ⊢
    repeat (any_goals (first | refine T.seq ?_ | refine T.region ?_ | refine TL.nil ?_ | refine N.next ?_ | refine N.inBlock ?_ | refine N.exit_same ?_ | refine N.exit_then ?_ | refine T.skip ?_ | refine T.exit ?_ | refine T.block ?_ | (apply T.test; rfl; (exact isx); intro _; rotate_left; intro _; rotate_right) | (apply TL.val; rfl; rfl; (apply V.elem (j := k); (iterate 6 rfl); omega; exact hg4.at_ (by omega))) | (apply TL.val; rfl; rfl; (apply V.load_H_row; rfl; rfl; rfl; exact hrow; rfl)) | (apply TL.x; rfl; rfl; (apply X.alloc (d := 10); rfl; rfl; rfl); intro b10 _) | (apply TL.x; rfl; rfl; (apply X.storeTo 0 (enc x); (iterate 10 rfl)); intro _ _) | (apply TL.val; rfl; rfl; (apply V.build; (iterate 6 rfl))) | (apply TL.x; rfl; rfl; (apply X.mputG (v := sgV zeroS) 2 x; rfl; rfl; exact key_q; (iterate 4 rfl); exact mput_toD (aPut_end hnew) rfl); intro _ _) | (apply TL.val; rfl; rfl; (first | exact vpure | exact vread))))
    all_goals (try contradiction)
    all_goals (try (exfalso; omega))
    refine N.round (k + 1) (by omega) (by show d.drop.len - (k + 1) < d.drop.len - k; omega) (by (repeat (first | exact True.intro | refine ⟨rfl, ?_⟩ | refine Sub.int rfl (by omega) ?_))) rfl ?_
    rw [hupg]
    (repeat (first | exact List.Sublist.refl _ | exact List.nil_sublist _ | apply List.Sublist.cons_cons | apply List.Sublist.cons))
  · have hke : k = d.drop.len := by omega
    subst hke
    rw [List.take_of_length_le (by omega)]
    refine T.frzAny 1 rfl fun H1 hbm hle1 => ?_
    refine T.frzZ 0 rfl fun H2 z8 hle2 => ?_
    have hbm := hle2 _ _ hbm
    have hle := hle1.trans hle2
    have hR := Rules.mono hle hR
    have hgz := Enc.mono hle hgz
    have hgd := Enc.mono hle hgd
    simp only [List.eraseIdx_cons_succ, List.eraseIdx_cons_zero]
    have hS := fun {w : World} (hs : Sat H2 w) => c_collectSS Signed.c Signed.c (fun x => !(gFindS (placeV x) (goesUp d.put.els d.drop.els)).isSome) z.sets 113 [.pointer (some ⟨b8, 0, none⟩)] Tryz.call113 hzl hs hgz.2 (fun x hx H' w' hle' hs' => (c_Apply1 (goesUp d.put.els d.drop.els) x b8 bm rfl hs' (Hp.cells_le hle' z8) (hle' _ _ hbm)).mono fun e w'' h => ret_retF hs' h (H', x) ⟨fun _ => rfl, Enc.mono hle' (hgz.2.els x hx)⟩ rfl rfl)
    have hstay : ∀ ys : List Signed, ys.map Signed.c = (z.sets.els.filter fun x => !(gFindS (placeV x) (goesUp d.put.els d.drop.els)).isSome).map Signed.c → ys.map Signed.c = stayD z.c.sets (dropD z.c.sets b.sets) (putD z.c.sets b.sets) ∧ ys.length + d.put.len ≤ 20000 := fun ys h => by
      rw [stay_eq, hd4, hd5] at h
      refine ⟨h, ?_⟩
      have h1 := delta_len ha.one hb.one
      have h2 := congrArg List.length h
      have h3 := congrArg List.length hd5
      rw [List.length_map] at h2 h3
      have h4 := hb.one.few
      have h2 : ys.length = (stayD z.c.sets (dropD z.c.sets b.sets) (putD z.c.sets b.sets)).length := h2
      omega
    have hplI : (0 : Int) ≤ (d.put.len : Int) := Int.natCast_nonneg _
    repeat (any_goals (first | (apply T.seqU 17; rfl) | refine T.region ?_ | refine TL.nil ?_ | refine N.next ?_ | refine N.exit_same ?_ | refine N.exit_then ?_ | refine T.skip ?_ | refine T.exit ?_ | refine T.block ?_ | (apply T.test; rfl; (exact isx); intro _; rotate_left; intro _; rotate_right) | (apply TL.val; rfl; rfl; ((apply V.makeFunc (vs := []) (us := [.pointer (some ⟨b8, 0, none⟩)]) <;> rfl))) | (apply TL.x; rfl; rfl; (apply X.callO0 (f := 106) Tryz.call106; rfl; rfl; exact fun _ hs => hS hs.sat); rintro ⟨H3, v3, ys⟩ ⟨⟨hys1, hys2⟩, hle3⟩; dsimp only at hys1 hys2 hle3 ⊢; obtain ⟨hys3, hys4⟩ := hstay ys hys1; have hgd3 := Enc.mono hle3 hgd) | (apply TL.val; rfl; rfl; (apply V.len_row; (iterate 4 rfl); exact List.Mem.head _)) | (apply TL.x; rfl; rfl; (apply X.appendSlc 0 d.put; (iterate 10 rfl); exact hgd3.2.2.2.2; (refine Nat.le_trans (Nat.mul_le_mul_right _ (show _ ≤ 40000 by omega)) ?_; decide); omega); intro v4 _) | (apply TL.val; rfl; rfl; (first | exact vpure | exact vread))))
    all_goals (try (exfalso; omega))
    refine T.rowEq 0 5 (ys ++ d.put.els).length (encs (ys ++ d.put.els)) rfl rfl (by rw [List.length_append, hpl]) (encs_append _ _).symm ?_
    have hle3' : H2.le H3 := hle3
    have hperm : ((ys ++ d.put.els).map Signed.c) = stayD z.c.sets (dropD z.c.sets b.sets) (putD z.c.sets b.sets) ++ putD z.c.sets b.sets := by rw [List.map_append, hys3, hd5]
    have hxs : ∀ x ∈ ys ++ d.put.els, Enc.good H3 x ∧ nameOK x.set.name = true ∧ x.set.data.len ≤ 1000 ∧ x.sigs.len ≤ 1000 := fun x hx => by
      rcases List.mem_append.1 hx with hx | hx
      · have hgx := hys2 x hx
        have hxm : x.c ∈ stayD z.c.sets (dropD z.c.sets b.sets) (putD z.c.sets b.sets) := by rw [← hys3]; exact List.mem_map.2 ⟨x, hx, rfl⟩
        have hxz := ((mem_stayD ha.one.uniq hb.one.uniq).1 hxm).1
        obtain ⟨j, hj, he⟩ := List.mem_iff_getElem.1 hxz
        obtain ⟨h1, _, h3, _⟩ := setOK_all (ha.one.setAt hxz)
        have h2 := (ha.five j hj).1
        rw [he] at h2
        have h4 := hgx.1.2.2.2.len
        have h5 := hgx.2.len
        have h3 : x.set.data.els.length ≤ 8 := h3.2
        have h6 : x.sigs.els.length ≤ 6 := by
          unfold sigsForm at h2
          simp only [Bool.and_eq_true, decide_eq_true_eq] at h2
          exact h2.1.1
        exact ⟨hgx, h1, by omega, by omega⟩
      · exact ⟨hgd3.2.2.2.2.els x hx, hsm x hx⟩
    have hxl : (ys ++ d.put.els).length ≤ 20000 := by rw [List.length_append]; omega
    obtain ⟨xs, hxse⟩ : ∃ xs, ys ++ d.put.els = xs := ⟨_, rfl⟩
    rw [hxse] at hperm hxs hxl ⊢
    clear hys1 hys2 hys3 hys4 hS
    simp only [List.singleton_append, List.set_cons_zero]
    repeat (any_goals (first | (apply T.seqU 18; rfl) | refine T.region ?_ | refine TL.nil ?_ | refine N.next ?_ | (apply TL.x; rfl; rfl; (apply X.callFE (f := 115) [.func (.func 105) #[] #[]] Tryz.call115; rfl; rfl; rfl; exact (fun _ hs => c_dcomparing hs.sat)); rintro ⟨H5, bc⟩ ⟨zc, hle5⟩; dsimp only at zc hle5 ⊢) | (apply TL.x; rfl; rfl; (apply X.callB [v4, .func (.func 140) #[] #[.pointer (some ⟨bc, 0, none⟩)]] (f := 114); (iterate 4 rfl); exact Tryz.call114; exact fun _ hs => c_sortSg bc zc (fun x hx => (hxs x hx).2.1) hs 0 rfl (by omega)); intro zs hzs) | (apply TL.val; rfl; rfl; (first | exact vpure | exact vread))))
    all_goals (try (exfalso; omega))
    obtain ⟨hz1, hz2⟩ := hzs
    have hzl5 : zs.length ≤ 20000 := by rw [hz1.length_eq]; exact hxl
    have hback : zs.map Signed.c = b.sets := sorted_back ha.one hb.one ((hz1.map Signed.c).trans (by rw [hperm])) (by rw [List.pairwise_map]; exact hz2)
    refine T.frzRow 0 (els := zs) rfl rfl rfl (fun x hx => Enc.mono hle5 (hxs x (hz1.mem_iff.1 hx)).1) fun H6 sl e1 e2 e3 hle6 => ?_
    have hC := fun {w : World} (hs : Sat H6 w) => (c_collectSS Signed.c Signed.c (fun _ => true) sl 116 [] Tryz.call116 (by have := e3.len; rw [e2] at this; omega) hs e3 (fun x hx H' w' hle' hs' => (c_Apply2 x hs' (Enc.mono hle' (e3.els x hx)) (hxs x (hz1.mem_iff.1 (e2 ▸ hx))).2.2.1 (hxs x (hz1.mem_iff.1 (e2 ▸ hx))).2.2.2).mono fun e w'' ⟨p, h1, h2, h3⟩ => ⟨p, ⟨fun _ => h1.1, h1.2⟩, h2, h3⟩)).mono fun e w' h => retO_F (φ := fun l : List Signed => l.map Signed.c = (sl.els.filter fun _ => true).map Signed.c) h
    have hfl : (sl.els.filter fun _ => true).map Signed.c = b.sets := by rw [List.filter_eq_self.2 fun _ _ => rfl, e2]; exact hback
    rw [hfl] at hC
    have hgz6 := Enc.mono ((hle3'.trans hle5).trans hle6) hgz
    have hgd6 := Enc.mono ((hle3'.trans hle5).trans hle6) hgd
    have hR6 := Rules.mono ((hle3'.trans hle5).trans hle6) hR
    subst e1
    repeat (any_goals (first | refine T.seq ?_ | refine T.region ?_ | (apply T.regionD wide; rfl) | refine TL.nil ?_ | refine N.next ?_ | refine N.ret_then ?_ | refine T.ret ?_ | refine T.skip ?_ | (apply T.test; rfl; (exact isx); intro _; rotate_left; intro _; rotate_right) | (apply GS.grow; rfl; rfl; (apply X.callFE (f := 106) [sl.v, .func (.func 116) #[] #[]] Tryz.call106; rfl; rfl; rfl; exact (fun _ hs => hC hs.sat)); rintro ⟨H7, so⟩ ⟨⟨hso1, hso2⟩, hle7⟩; dsimp only at hso1 hso2 hle7 ⊢; have hgz7 := Enc.mono hle7 hgz6; have hR7 := Rules.mono hle7 hR6; have hzc : (⟨z.apex, so⟩ : ZoneV).c = b := (by show (⟨z.apex, so.els.map Signed.c⟩ : ZoneC) = b; rw [hso1, hap]); have hgo : Enc.good H7 (⟨z.apex, so⟩ : ZoneV) := ⟨hgz7.1, hso2⟩; have hzz : ZonedR (⟨z.apex, so⟩ : ZoneV).c := Eq.mpr (congrArg ZonedR hzc) hb; have hss : serialC (⟨z.apex, so⟩ : ZoneV).c = m := (congrArg serialC hzc).trans hm) | (apply GS.grow; rfl; rfl; (apply X.alloc (d := 13); rfl; rfl; rfl); intro b13 _) | (apply TL.val; rfl; rfl; (apply V.build; (iterate 6 rfl))) | (apply GT.pure; (iterate 4 rfl); (apply V.build; (iterate 6 rfl)); decide +kernel) | (apply GS.eff; rfl; decide +kernel; rfl; (apply X.storeTo 0 (enc (⟨z.apex, so⟩ : ZoneV)); (iterate 10 rfl)); intro _ _) | (apply TL.callE (f := 26) [.agg (enc (⟨z.apex, so⟩ : ZoneV)).toArray] Tryz.call26; (iterate 4 rfl); (exact fun _ hs => c_zoneSerial (⟨z.apex, so⟩ : ZoneV) hzz hss hs.sat hR7 hgo)) | (apply TL.x; rfl; rfl; (apply X.storeTo 1 (enc (⟨z.apex, so⟩ : ZoneV)); (iterate 10 rfl)); intro _ _) | (apply TL.val; rfl; rfl; (first | exact vpure | exact vread)) | (apply GT.pure; (iterate 4 rfl); (first | exact vpure); decide +kernel) | (apply GT.read; (iterate 4 rfl); (first | exact vpure | exact vread); decide +kernel) | (apply GT.done; decide +kernel; apply N.ofQ) | (apply GT.adv; rfl) | (apply TL.x; rfl; rfl; (first | exact xgrow | exact xput); intro _ _) | (apply GT.fork1; decide +kernel) | (apply GT.fork2 5; decide +kernel)))
    all_goals (try contradiction)
    all_goals (try (exact absurd hd3.symm (by assumption)))
    all_goals first
      | exact N.ret2 rfl (by (exact rvx)) (by (exact rvx)) fun w1 hst => ⟨(H7, ⟨z.apex, so⟩), ⟨hzc, hgo⟩, rfl, ⟨hst.fresh.below, hst.fresh.sat, hst.fresh.le, hst.fresh.new⟩⟩
      | trace_state
end
end Go.Proofs.YthabgdbhgcgemaaGreatDoor
