/- Walks: the law TrustWays. -/
import Derived.Test.YtfbhcemlnojejaaDoorRTJoin
import Derived.Test.YtfbhcemlnojejaaDoorRTMap
import Derived.Test.YtfbhcemlnojejaaDoorRTR
import Derived.Test.YtfbhcemlnojejaaDoorRTRef
import Derived.Test.YtfbhcemlnojejaaDoorREngB
import Derived.Test.YtfbhcemlnojejaaDoorRSpecI
set_option pp.deepTerms true
set_option pp.maxSteps 10000000
namespace Go.Proofs.YtfbhcemlnojejaaDoor
set_option linter.unusedVariables false
set_option linter.unusedSimpArgs false
open Go Go.RowKit
open Enc (enc)
set_option maxRecDepth 20000

theorem V.mlen [Tys Tryd.prog] {n : FK} {w0 : World} {H0 H : Hp} {L : List Loc} {env : List (Nat × Value)} {κ : Type} {mk : κ → Value} {t kt e : TypeId} {tys : Array TypeId} {x : Operand} {b : Nat} {k : TyK} {l : List (κ × Value)} (ht : tys[0]? = some t) (hk : tyk Tryd.prog t = some k) (hd : k.desc = .map kt e) (hx : ev env x = some (.map (some b))) (hm : Loc.any b (mObj mk l) ∈ L) : V Tryd.prog n (St w0 H0 H L) env (.call { callee := .builtin .len, args := #[x], argTypes := tys }) (intV l.length) :=
  ⟨fun o a w ho hf hs => by
    obtain ⟨d, hu, hf'⟩ := (tyk_ok hk).und
    rw [hd] at hf'
    simp only [TyD.fits] at hf'
    subst hf'
    have hg : (getObj b).run Tryd.prog w = .ok (mObj mk l) w := MapKept.run_getObj_map (hs.ok _ hm).2
    have hsz : (entsFrom mk 0 l).length = l.length := by simp [entsFrom]
    unfold execOp; rw [ho]
    simp [hf.ev hx, resolve, invoke, builtin, Builtin.len_, ht, run_underlying hu, goInt, hg, mObj, hsz]⟩
section
variable {κ α : Type} [DecidableEq κ] {f : α → Value}
theorem aPut_newG {a : κ} {x : α} {l : List (κ × α)} (h : ∀ p ∈ l, p.1 ≠ a) : aPut a (f x) (l.map fun p => (p.1, f p.2)) = (l ++ [(a, x)]).map fun p => (p.1, f p.2) := by
  unfold aPut
  have : aFind a (l.map fun p => (p.1, f p.2)) 0 = none := aFind_none.2 fun p hp => by
    obtain ⟨y, hy, rfl⟩ := List.mem_map.1 hp
    exact h y hy
  rw [this]; simp
theorem aGet_hasG {a : κ} {l : List (κ × α)} (h : ∃ p ∈ l, p.1 = a) : ∃ x, (a, x) ∈ l ∧ aGet a (l.map fun p => (p.1, f p.2)) = some (f x) := by
  unfold aGet
  cases hf : aFind a (l.map fun p => (p.1, f p.2)) 0 with
  | none =>
    obtain ⟨p, hp, rfl⟩ := h
    exact absurd rfl (aFind_none.1 hf (p.1, f p.2) (List.mem_map_of_mem (f := fun p => (p.1, f p.2)) hp))
  | some r =>
    obtain ⟨i, v⟩ := r
    have := (aFind_some hf).2
    rw [Nat.sub_zero, List.getElem?_map] at this
    cases hg : l[i]? with
    | none => rw [hg] at this; cases this
    | some p =>
      rw [hg] at this
      obtain ⟨k, y⟩ := p
      simp only [Option.map_some, Option.some.injEq, Prod.mk.injEq] at this
      obtain ⟨rfl, rfl⟩ := this
      exact ⟨y, List.mem_of_getElem? hg, rfl⟩
end
/-- What the map holds when n zones have been done. -/
structure WM (zs : List Bytes) (a b : Int) (n : Nat) (l : List (Question × Signed)) : Prop where
  len : l.length = 2 * n - 1
  has7 : ∀ j, j < n → ∃ p ∈ l, p.1 = (⟨zs.getD j [], 7⟩ : Question)
  has6 : ∀ j, 0 < j → j < n → ∃ p ∈ l, p.1 = (⟨zs.getD j [], 6⟩ : Question)
  all : ∀ p ∈ l, ∃ j, j < n ∧ ((p.1 = (⟨zs.getD j [], 7⟩ : Question) ∧ p.2.c = wK zs a b j) ∨ (0 < j ∧ p.1 = (⟨zs.getD j [], 6⟩ : Question) ∧ p.2.c = wA zs a b j))
section
variable {zs : List Bytes} {a b : Int} {n : Nat} {l : List (Question × Signed)}
theorem getD_at {i : Nat} (h : i < zs.length) : zs.getD i [] = zs[i] := by rw [List.getD_eq_getElem?_getD, List.getElem?_eq_getElem h]; rfl
theorem WM.nil : WM zs a b 0 [] where
  len := rfl
  has7 j hj := by omega
  has6 j h0 hj := by omega
  all p hp := by cases hp
theorem WM.start (x : Signed) (h : x.c = wK zs a b 0) : WM zs a b 1 [((⟨zs.getD 0 [], 7⟩ : Question), x)] where
  len := rfl
  has7 j hj := by obtain rfl : j = 0 := by omega
                  exact ⟨_, List.mem_singleton_self _, rfl⟩
  has6 j h0 hj := by omega
  all p hp := by obtain rfl := List.mem_singleton.1 hp
                 exact ⟨0, by omega, .inl ⟨rfl, h⟩⟩
theorem WM.new7 (hm : WM zs a b n l) (hz : Zones zs) (hn : n < zs.length) : ∀ p ∈ l, p.1 ≠ (⟨zs.getD n [], 7⟩ : Question) := by
  intro p hp he
  obtain ⟨j, hj, h | ⟨_, h, _⟩⟩ := hm.all p hp
  · have h1 : zs.getD j [] = zs.getD n [] := congrArg Question.name (h.1.symm.trans he)
    rw [getD_at (by omega), getD_at hn] at h1
    have := hz.inj (by omega) hn h1
    omega
  · have := congrArg Question.typ (h.symm.trans he)
    cases this
theorem WM.new6 (hm : WM zs a b n l) (hz : Zones zs) (hn : n < zs.length) (x : Signed) : ∀ p ∈ l ++ [((⟨zs.getD n [], 7⟩ : Question), x)], p.1 ≠ (⟨zs.getD n [], 6⟩ : Question) := by
  intro p hp he
  rcases List.mem_append.1 hp with hp | hp
  · obtain ⟨j, hj, ⟨h, _⟩ | ⟨_, h, _⟩⟩ := hm.all p hp
    · have := congrArg Question.typ (h.symm.trans he)
      cases this
    · have h1 : zs.getD j [] = zs.getD n [] := congrArg Question.name (h.symm.trans he)
      rw [getD_at (by omega), getD_at hn] at h1
      have := hz.inj (by omega) hn h1
      omega
  · obtain rfl := List.mem_singleton.1 hp
    have := congrArg Question.typ he
    cases this
theorem WM.step (hm : WM zs a b n l) (h0 : 0 < n) {x y : Signed} (hx : x.c = wK zs a b n) (hy : y.c = wA zs a b n) : WM zs a b (n + 1) ((l ++ [((⟨zs.getD n [], 7⟩ : Question), x)]) ++ [((⟨zs.getD n [], 6⟩ : Question), y)]) where
  len := by simp only [List.length_append, List.length_cons, List.length_nil, hm.len]; omega
  has7 j hj := by
    by_cases h : j < n
    · obtain ⟨p, h1, h2⟩ := hm.has7 j h
      exact ⟨p, by simp [h1], h2⟩
    · obtain rfl : j = n := by omega
      exact ⟨(⟨zs.getD j [], 7⟩, x), by simp, rfl⟩
  has6 j hj0 hj := by
    by_cases h : j < n
    · obtain ⟨p, h1, h2⟩ := hm.has6 j hj0 h
      exact ⟨p, by simp [h1], h2⟩
    · obtain rfl : j = n := by omega
      exact ⟨(⟨zs.getD j [], 6⟩, y), by simp, rfl⟩
  all p hp := by
    rcases List.mem_append.1 hp with hp | hp
    · rcases List.mem_append.1 hp with hp | hp
      · obtain ⟨j, hj, h⟩ := hm.all p hp
        exact ⟨j, by omega, h⟩
      · obtain rfl := List.mem_singleton.1 hp
        exact ⟨n, by omega, .inl ⟨rfl, hx⟩⟩
    · obtain rfl := List.mem_singleton.1 hp
      exact ⟨n, by omega, .inr ⟨h0, rfl, hy⟩⟩
theorem WM.get (hm : WM zs a b zs.length l) (hz : Zones zs) {f : Signed → Value} {j : Nat} (hj : j < 2 * zs.length - 1) : ∃ x, (wAsk zs j, x) ∈ l ∧ aGet (wAsk zs j) (l.map fun p => (p.1, f p.2)) = some (f x) ∧ x.c = wSeq zs a b j := by
  have hex : ∃ p ∈ l, p.1 = wAsk zs j := by
    unfold wAsk
    split
    · exact hm.has6 _ (by omega) (by omega)
    · exact hm.has7 _ (by omega)
  obtain ⟨x, h1, h2⟩ := aGet_hasG (f := f) hex
  refine ⟨x, h1, h2, ?_⟩
  obtain ⟨i, hi, ⟨h, hc⟩ | ⟨h0, h, hc⟩⟩ := hm.all _ h1
  · unfold wAsk at h
    unfold wSeq
    split at h
    · have := congrArg Question.typ h; cases this
    · rename_i hn
      rw [if_neg hn]
      have h3 := congrArg Question.name h
      simp only at h3
      rw [getD_at (by omega), getD_at hi] at h3
      rw [hz.inj (by omega) hi h3]
      exact hc
  · unfold wAsk at h
    unfold wSeq
    split at h
    · rename_i hn
      rw [if_pos hn]
      have h3 := congrArg Question.name h
      simp only at h3
      rw [getD_at (by omega), getD_at hi] at h3
      rw [hz.inj (by omega) hi h3]
      exact hc
    · have := congrArg Question.typ h; cases this
end
theorem St.rowPutW {α : Type} [Enc α] {w0 w : World} {H0 H : Hp} {L : List Loc} {b m c size : Nat} {e : TypeId} {els : List α} (hs : St w0 H0 H L w) (hmem : Loc.row (.slice (some ⟨b, 0, none⟩) m c) e size m (encs els) ∈ L) (hsz : size = Enc.size α) (hm : els.length = m) (hg : ∀ x ∈ els, Enc.good H x) : ∃ o : Obj, (⟨some ⟨b, 0, none⟩, m, c, els⟩ : Slc α).Good (H.put b o) ∧ Sat (H.put b o) w ∧ H b = none ∧ b < w.heap.size := by
  subst hsz
  obtain ⟨cur, hh, hbase, hl, hmc, hcm, hcs, htake⟩ := hs.row_get hmem
  have hnone : H b = none := hs.out _ hmem b rfl
  have hle := Hp.put_le H (.cells cur e (0, 0)) hnone
  refine ⟨.cells cur e (0, 0), ⟨hm, hmc, by simpa [maxLen] using hcm, fun _ => rfl, fun k x hk j u hj => ?_, fun x hx => Enc.mono hle (hg x hx)⟩, fun k o hk => ?_, hnone, ?_⟩
  · have h1 := encs_get els k j x u hk hj
    have hlt : k * Enc.size α + j < m * Enc.size α := by
      have := (List.getElem?_eq_some_iff.1 h1).1
      rw [encs_length, hm] at this; exact this
    have hc : (H.put b (.cells cur e (0, 0))).cell b (0 + k * Enc.size α + j) = cur[0 + k * Enc.size α + j]? := by
      unfold Hp.cell Hp.put
      rw [if_pos rfl]
    refine Eq.trans hc ?_
    rw [Nat.zero_add, ← h1, ← htake, List.getElem?_take, if_pos hlt]
    simp
  · unfold Hp.put at hk
    split at hk
    · rename_i e; subst e; cases hk; exact hh
    · exact hs.sat k o hk
  · exact (Array.getElem?_eq_some_iff.1 hh).1
/-- An own row, as a slice that nobody writes for one call. -/
theorem St.rowAs {α : Type} [Enc α] {w0 w : World} {H0 H : Hp} {L : List Loc} {v : Value} {m size : Nat} {e : TypeId} {els : List α} (hs : St w0 H0 H L w) (hmem : Loc.row v e size m (encs els) ∈ L) (hsz : size = Enc.size α) (hm : els.length = m) (hg : ∀ x ∈ els, Enc.good H x) : (v = (Slc.nil α).v ∧ els = []) ∨ ∃ (b c : Nat) (o : Obj), v = (⟨some ⟨b, 0, none⟩, m, c, els⟩ : Slc α).v ∧ (⟨some ⟨b, 0, none⟩, m, c, els⟩ : Slc α).Good (H.put b o) ∧ Sat (H.put b o) w ∧ H b = none ∧ b < w.heap.size := by
  rcases (show w.ownsRow w0.heap.size e size v m (encs els) from hs.ok _ hmem).2 with ⟨h1, h0⟩ | ⟨g, cap, cur, rfl, _⟩
  · left
    subst h0
    exact ⟨h1, List.eq_nil_of_length_eq_zero hm⟩
  · right
    obtain ⟨o, h⟩ := hs.rowPutW hmem hsz hm hg
    exact ⟨g, cap, o, rfl, h⟩
theorem c_PathOwn {w0 w : World} {H0 H : Hp} {L : List Loc} {v : Value} {m : Nat} {els : List Signed} {an : RSet} {zone : Bytes} {at_ drift : Int} {q : Question} (hr : pathC (els.map Signed.c) an.c zone at_ drift = ([], q, 4)) (hs : St w0 H0 H L w) (hmem : Loc.row v 37 5 m (encs els) ∈ L) (hm : els.length = m) (hg : ∀ x ∈ els, Enc.good H x) (hR : Rules H) (ha : Enc.good H an) (hz : LenOk zone) (hat : I64 at_) (hdr : I64 drift) : Calls Tryd.prog 16 #[v, .agg (enc an).toArray, strV zone, intV at_, intV drift] w
    (RetF w H (fun p : Hp × Slc KeyC => p.2.Good p.1) (fun p => .tuple #[p.2.v, .agg (enc q).toArray, intV 4]) (fun p => p.1)) := by
  rcases hs.rowAs hmem rfl hm hg with ⟨rfl, rfl⟩ | ⟨b, c, o, rfl, h1, h2, h3, h4⟩
  · have h := c_Path (Slc.nil Signed) an zone at_ drift H w hs.sat hR Slc.nil_good ha hz hat hdr
    refine h.mono ?_
    rintro en w' ⟨p, ⟨e1, e2, e3⟩, e4, e5⟩
    rw [show pathC ((Slc.nil Signed).els.map Signed.c) an.c zone at_ drift = ([], q, 4) from hr] at e1
    injection e1 with e11 e12
    injection e12 with e12 e13
    exact ⟨(p.1, p.2.1), e2, by rw [e4, e12, e13], e5⟩
  · have hle := Hp.put_le H o h3
    have h := c_Path ⟨some ⟨b, 0, none⟩, m, c, els⟩ an zone at_ drift (H.put b o) w h2 (Rules.mono hle hR) h1 (Enc.mono hle ha) hz hat hdr
    refine h.mono ?_
    rintro en w' ⟨p, ⟨e1, e2, e3⟩, e4, e5⟩
    rw [show pathC ((⟨some ⟨b, 0, none⟩, m, c, els⟩ : Slc Signed).els.map Signed.c) an.c zone at_ drift = ([], q, 4) from hr] at e1
    injection e1 with e11 e12
    injection e12 with e12 e13
    have hsat := e5.sat
    have hl := e2.len
    rw [← e11] at hl
    refine ⟨(fun k => if k = b then none else p.1 k, p.2.1), ⟨by rw [← e11]; exact hl, e2.cap, e2.big, e2.at_, fun k x hx => by rw [← e11] at hx; simp at hx, fun x hx => by rw [← e11] at hx; cases hx⟩, by rw [e4, e12, e13], ⟨e5.below, fun k o hk => ?_, fun k o' hk => ?_, fun k hk hk' => ?_⟩⟩
    · simp only at hk
      split at hk
      · cases hk
      · exact hsat k o hk
    · have hkb : k ≠ b := fun e => by rw [e, h3] at hk; cases hk
      simp only [if_neg hkb]
      exact e5.le k o' (hle k o' hk)
    · simp only at hk'
      have hkb : k ≠ b := fun e => by rw [if_pos e] at hk'; exact hk' rfl
      rw [if_neg hkb] at hk'
      refine e5.new k ?_ hk'
      unfold Hp.put
      rw [if_neg hkb]; exact hk
theorem c_KnownOwn {w0 w : World} {H0 H : Hp} {L : List Loc} {v : Value} {m : Nat} {els : List Signed} {n : Bytes} {t r : Int} (hr : knownI (els.map Signed.c) n t = r) (hs : St w0 H0 H L w) (hmem : Loc.row v 37 5 m (encs els) ∈ L) (hm : els.length = m) (hg : ∀ x ∈ els, Enc.good H x) : Calls Tryd.prog 28 #[v, strV n, intV t] w (Ret w (intV r)) := by
  rcases hs.rowAs hmem rfl hm hg with ⟨rfl, rfl⟩ | ⟨b, c, o, rfl, h1, h2, h3, h4⟩
  · exact c_Known10V (s := Slc.nil Signed) hr hs.sat Slc.nil_good
  · exact c_Known10V (s := ⟨some ⟨b, 0, none⟩, m, c, els⟩) hr h2 h1
theorem known_next {zs : List Bytes} {a b : Int} (hz : Zones zs) {j : Nat} (hj : j < 2 * zs.length - 1) : knownI (wKnown zs a b j) (wAsk zs j).name (wAsk zs j).typ < 0 := by
  rw [knownI_neg]
  unfold wAsk
  split
  · rw [getD_at (by omega)]
    exact (find_anchor hz (by omega) (by omega) (by omega)).trans (if_neg (by omega))
  · rw [getD_at (by omega)]
    exact (find_key hz (by omega) (by omega)).trans (if_neg (by omega))
theorem wKnown_snoc {zs : List Bytes} {a b : Int} {j : Nat} : wKnown zs a b (j + 1) = wKnown zs a b j ++ [wSeq zs a b j] := by
  unfold wKnown
  rw [List.range_succ, List.map_append]; rfl
abbrev fSig (x : Signed) : Value := .agg (enc x).toArray
abbrev mSig (l : List (Question × Signed)) : List (Question × Value) := l.map fun p => (p.1, fSig p.2)
theorem mput_to {κ : Type} [DecidableEq κ] {L L' : List Loc} {i b : Nat} {mk : κ → Value} {a : κ} {v : Value} {l l' : List (κ × Value)} (h : aPut a v l = l') (hL : L.set i (.any b (mObj mk l')) = L') : L.set i (.any b (mObj mk (aPut a v l))) = L' := by rw [h]; exact hL
theorem getD_is {α : Type} {o : Option α} {v z : α} (h : o = some v) : o.getD z = v := by rw [h]; rfl
theorem isSome_is {α : Type} {o : Option α} {v : α} (h : o = some v) : o.isSome = true := by rw [h]; rfl
theorem encs_atW {α : Type} [Enc α] {l : List α} {k j o : Nat} {x : α} {v : Value} (hk : l[k]? = some x) (hj : (enc x)[j]? = some v) (ho : o = k * Enc.size α + j) : (encs l)[o]? = some v := by
  rw [ho]; exact encs_get l k j x v hk hj
theorem T.frzRowX {α : Type} [Enc α] {P : Program} {n : FK} {w0 : World} {H0 H : Hp} {Q : Exit → Act → World → Prop} {env : List (Nat × Value)} {L : List Loc} {c : Code} (i : Nat) {b m cc : Nat} {e : TypeId} {size : Nat} (els : List α) {xs : List Value} (hi : L[i]? = some (.row (.slice (some ⟨b, 0, none⟩) m cc) e size m xs)) (hsz : size = Enc.size α) (hx : xs = encs els) (hm : els.length = m) (hg : ∀ x ∈ els, Enc.good H x) (h : ∀ (H' : Hp), (⟨some ⟨b, 0, none⟩, m, cc, els⟩ : Slc α).Good H' → H.le H' → T P n w0 H0 c Q env H' (L.eraseIdx i)) : T P n w0 H0 c Q env H L := by
  refine T.frzRowE i els hi hsz hx hm hg fun H' s e1 e2 h1 h2 => h H' ?_ h2
  obtain ⟨A, l, c', es⟩ := s
  have e1 : Value.slice A l c' = .slice (some ⟨b, 0, none⟩) m cc := e1
  injection e1 with e3 e4 e5
  have e2 : es = els := e2
  rw [← e3, ← e4, ← e5, ← e2]
  exact h1
theorem c_JoinV {s : Slc Bytes} {n : Bytes} {e : Int} (hr : joinC s.els = (n, e)) {H : Hp} {w : World} (hs : Sat H w) (hg : s.Good H) (hm : s.len ≤ 1000) : Calls Tryd.prog 32 #[s.v] w (Ret w (.tuple #[strV n, intV e])) := by
  have h := c_Join01 s H w hs hg hm
  rw [hr] at h
  exact h
theorem c_SignV {s : RSet} {zone : Bytes} {kk : KeyC} {frm til : Int} {g : Sig} {e : Int} (hr : signC s.c zone kk frm til = (g, e)) {H : Hp} {w : World} (hs : Sat H w) (hR : Rules H) (hg : Enc.good H s) (hz : LenOk zone) (hk : Enc.good H kk) (hf : I64 frm) (ht : I64 til) : Calls Tryd.prog 27 #[.agg (enc s).toArray, strV zone, .agg (enc kk).toArray, intV frm, intV til] w (Ret w (.tuple #[.agg (enc g).toArray, intV e])) := by
  have h := c_Sign s zone kk frm til H w hs hR hg hz hk hf ht
  rw [hr] at h
  exact h
theorem c_Same10V {a b : Slc KeyC} {v : Bool} (hr : decide (a.els = b.els) = v) {H : Hp} {w : World} (hs : Sat H w) (ha : a.Good H) (hb : b.Good H) : Calls Tryd.prog 18 #[a.v, b.v] w (Ret w (.bool v)) := hr ▸ c_Same10 a b H w hs ha hb
theorem wKey_good {i : Nat} (hi : i < 100) (H : Hp) : Enc.good H (wKey i) := by
  unfold wKey
  refine ⟨?_, ?_⟩
  · constructor <;> simp only <;> omega
  · constructor <;> simp only <;> omega
theorem wDatum_good {i : Nat} (hi : i < 100) (H : Hp) : Enc.good H (wDatum i) := by
  unfold wDatum
  refine ⟨(show LenOk ([] : Bytes) by decide), ?_, ?_⟩
  · constructor <;> simp only <;> omega
  · constructor <;> simp only <;> omega
theorem one_good {α : Type} [Enc α] {H : Hp} {x : α} (h : Enc.good H x) : ∀ y ∈ [x], Enc.good H y := fun y hy => by
  obtain rfl := List.mem_singleton.1 hy
  exact h
section
variable {zs : List Bytes} {a b : Int} (hz : Zones zs) (hlen : zs.length ≤ 6) (hwin : windowOK a b = true)
include hz hlen hwin
theorem wK_sig {i : Nat} (hi : i < zs.length) (ha : I64 a) (hb : I64 b) : ∃ g : Sig, signC (wSet zs[i] 7 i) zs[i] (wKey i) a b = (g, 0) ∧ ∀ H : Hp, Enc.good H g := by
  have h := wK_sign hz hlen hwin hi
  refine ⟨_, h, fun H => ?_⟩
  exact sign_good (r := (_, 0)) h.symm (H := H) (Nat.le_trans (nameOK_le (hz.name i hi)) (by decide)) (wKey_good (by omega) H) ha hb
theorem wA_sig {i : Nat} (hi : i + 1 < zs.length) (ha : I64 a) (hb : I64 b) : ∃ g : Sig, signC (wSet zs[i + 1] 6 (i + 1)) (zs[i]'(by omega)) (wKey i) a b = (g, 0) ∧ ∀ H : Hp, Enc.good H g := by
  have h := wA_sign hz hlen hwin hi
  refine ⟨_, h, fun H => ?_⟩
  exact sign_good (r := (_, 0)) h.symm (H := H) (Nat.le_trans (nameOK_le (hz.name i (by omega))) (by decide)) (wKey_good (by omega) H) ha hb
end
set_option maxHeartbeats 8000000 in
theorem c_Ways (labels : Slc Bytes) (a b t d : Int) (H : Hp) (w : World) (hs : Sat H w) (hR : Rules H) (hl : labels.Good H) (ha : I64 a) (hb : I64 b) (ht : I64 t) (hd : I64 d) : Calls Tryd.prog 8 #[labels.v, intV a, intV b, intV t, intV d] w (Ret w (.bool true)) := by
  have hll := hl.len
  have hlim := hl.lim
  refine T.enter (vs := [labels.v, intV a, intV b, intV t, intV d]) (H := H) Tryd.func8 rfl rfl rfl hs ?_
  by_cases h5 : labels.len > 5
  · repeat (any_goals (first | refine T.seq ?_ | refine T.region ?_ | (apply T.regionD wide; rfl) | refine TL.nil ?_ | refine N.next ?_ | refine N.inBlock ?_ | refine N.exit_same ?_ | refine N.exit_then ?_ | refine N.ret_then ?_ | refine N.ret_block ?_ | (apply N.exit_other; rfl) | refine T.ret ?_ | refine T.skip ?_ | refine T.exit ?_ | refine T.block ?_ | (apply T.cond_true; rfl) | (apply T.cond_false; rfl) | (apply T.test; rfl; (with_reducible (first | exact Is.ndec | exact Is.dec | exact Is.not | ((fail_if_success exact Is.litT); (fail_if_success exact Is.litF); exact Is.base))); intro _; rotate_left; intro _; rotate_right) | (apply TL.skip; rfl; rfl; rfl) | (apply TL.skip_none; rfl; rfl) | (apply GT.skip; rfl; rfl; rfl; decide +kernel) | (apply GS.grow; rfl; rfl; (apply X.callR0 (f := 14) Tryd.call14; rfl; rfl; (exact fun _ hs => c_head10 _ _ hs.sat hR)); intro _ _) | (apply TL.call0 (f := 14) Tryd.call14; rfl; rfl; rfl; (exact fun _ hs => c_head10 _ _ hs.sat hR)) | (apply GT.call0 (f := 14) Tryd.call14; rfl; rfl; rfl; rfl; rfl; (exact fun _ hs => c_head10 _ _ hs.sat hR); decide +kernel) | (apply TL.val; rfl; rfl; (first | exact vpure | exact vread)) | (apply GT.pure; rfl; rfl; rfl; rfl; (first | exact vpure); decide +kernel) | (apply GT.read; rfl; rfl; rfl; rfl; (first | exact vpure | exact vread); decide +kernel) | (apply GT.done; decide +kernel; apply N.ofQ) | (apply GT.adv; rfl) | (apply TL.x; rfl; rfl; (first | exact xgrow | exact xput); intro _ _) | (apply GS.grow; rfl; rfl; (first | exact xgrow); intro _ _) | (apply GS.eff; rfl; decide +kernel; rfl; (first | exact xput); intro _ _) | (apply TL.guard; rfl; rfl; rfl; (with_reducible (first | exact Is.ndec | exact Is.dec | exact Is.not | ((fail_if_success exact Is.litT); (fail_if_success exact Is.litF); exact Is.base))); intro _; rotate_left; intro _; rotate_right) | (apply GT.guard; rfl; rfl; rfl; rfl; (with_reducible (first | exact Is.ndec | exact Is.dec | exact Is.not | ((fail_if_success exact Is.litT); (fail_if_success exact Is.litF); exact Is.base))); intro _; rotate_left; intro _; rotate_right) | (apply GT.fork1; decide +kernel) | (apply GT.fork2 1; decide +kernel) | (apply GT.fork2 2; decide +kernel) | (apply GT.fork2 3; decide +kernel) | (apply GT.fork2 4; decide +kernel) | (apply GT.fork2 5; decide +kernel) | (apply GT.fork2 6; decide +kernel) | (apply GT.fork2 7; decide +kernel) | (apply GT.fork2 8; decide +kernel) | (apply GT.fork2 9; decide +kernel) | (apply GT.fork2 10; decide +kernel) | (apply GT.fork2 11; decide +kernel) | (apply GT.fork2 12; decide +kernel) | (apply GT.fork2 13; decide +kernel) | (apply GT.fork2 14; decide +kernel) | (apply GT.fork2 15; decide +kernel) | (apply GT.fork2 16; decide +kernel) | (apply GT.fork2 17; decide +kernel) | (apply GT.fork2 18; decide +kernel) | (apply GT.fork2 19; decide +kernel) | (apply GT.fork2 20; decide +kernel) | (apply GT.fork2 21; decide +kernel) | (apply GT.fork2 22; decide +kernel) | (apply GT.fork2 23; decide +kernel)))
    all_goals (try contradiction)
    all_goals (try (exfalso; omega))
    all_goals exact N.ret_bool rfl (by (exact rvx)) rfl
  cases hwh : whenOK t d with
  | false =>
    repeat (any_goals (first | refine T.seq ?_ | refine T.region ?_ | (apply T.regionD wide; rfl) | refine TL.nil ?_ | refine N.next ?_ | refine N.inBlock ?_ | refine N.exit_same ?_ | refine N.exit_then ?_ | refine N.ret_then ?_ | refine N.ret_block ?_ | (apply N.exit_other; rfl) | refine T.ret ?_ | refine T.skip ?_ | refine T.exit ?_ | refine T.block ?_ | (apply T.cond_true; rfl) | (apply T.cond_false; rfl) | (apply T.test; rfl; (with_reducible (first | exact Is.ndec | exact Is.dec | exact Is.not | ((fail_if_success exact Is.litT); (fail_if_success exact Is.litF); exact Is.base))); intro _; rotate_left; intro _; rotate_right) | (apply TL.skip; rfl; rfl; rfl) | (apply TL.skip_none; rfl; rfl) | (apply GT.skip; rfl; rfl; rfl; decide +kernel) | (apply GS.grow; rfl; rfl; (apply X.callR0 (f := 14) Tryd.call14; rfl; rfl; (exact fun _ hs => c_head10 _ _ hs.sat hR)); intro _ _) | (apply TL.call0 (f := 14) Tryd.call14; rfl; rfl; rfl; (exact fun _ hs => c_head10 _ _ hs.sat hR)) | (apply GT.call0 (f := 14) Tryd.call14; rfl; rfl; rfl; rfl; rfl; (exact fun _ hs => c_head10 _ _ hs.sat hR); decide +kernel) | (apply TL.callE (f := 26) [intV t, intV d] Tryd.call26; rfl; rfl; rfl; rfl; (exact fun _ hs => hwh ▸ c_When t d _ _ hs.sat)) | (apply GT.callE (f := 26) [intV t, intV d] Tryd.call26; rfl; rfl; rfl; rfl; rfl; rfl; (exact fun _ hs => hwh ▸ c_When t d _ _ hs.sat); decide +kernel) | (apply TL.val; rfl; rfl; (first | exact vpure | exact vread)) | (apply GT.pure; rfl; rfl; rfl; rfl; (first | exact vpure); decide +kernel) | (apply GT.read; rfl; rfl; rfl; rfl; (first | exact vpure | exact vread); decide +kernel) | (apply GT.done; decide +kernel; apply N.ofQ) | (apply GT.adv; rfl) | (apply TL.x; rfl; rfl; (first | exact xgrow | exact xput); intro _ _) | (apply GS.grow; rfl; rfl; (first | exact xgrow); intro _ _) | (apply GS.eff; rfl; decide +kernel; rfl; (first | exact xput); intro _ _) | (apply TL.guard; rfl; rfl; rfl; (with_reducible (first | exact Is.ndec | exact Is.dec | exact Is.not | ((fail_if_success exact Is.litT); (fail_if_success exact Is.litF); exact Is.base))); intro _; rotate_left; intro _; rotate_right) | (apply GT.guard; rfl; rfl; rfl; rfl; (with_reducible (first | exact Is.ndec | exact Is.dec | exact Is.not | ((fail_if_success exact Is.litT); (fail_if_success exact Is.litF); exact Is.base))); intro _; rotate_left; intro _; rotate_right) | (apply GT.fork1; decide +kernel) | (apply GT.fork2 1; decide +kernel) | (apply GT.fork2 2; decide +kernel) | (apply GT.fork2 3; decide +kernel) | (apply GT.fork2 4; decide +kernel) | (apply GT.fork2 5; decide +kernel) | (apply GT.fork2 6; decide +kernel) | (apply GT.fork2 7; decide +kernel) | (apply GT.fork2 8; decide +kernel) | (apply GT.fork2 9; decide +kernel) | (apply GT.fork2 10; decide +kernel) | (apply GT.fork2 11; decide +kernel) | (apply GT.fork2 12; decide +kernel) | (apply GT.fork2 13; decide +kernel) | (apply GT.fork2 14; decide +kernel) | (apply GT.fork2 15; decide +kernel) | (apply GT.fork2 16; decide +kernel) | (apply GT.fork2 17; decide +kernel) | (apply GT.fork2 18; decide +kernel) | (apply GT.fork2 19; decide +kernel) | (apply GT.fork2 20; decide +kernel) | (apply GT.fork2 21; decide +kernel) | (apply GT.fork2 22; decide +kernel) | (apply GT.fork2 23; decide +kernel)))
    all_goals (try contradiction)
    all_goals (try (exfalso; omega))
    all_goals exact N.ret_bool rfl (by (exact rvx)) rfl
  | true =>
  obtain ⟨hwi⟩ := (⟨whenOK_iff.1 hwh⟩ : PLift _)
  cases hwin : windowOK a b with
  | false =>
    repeat (any_goals (first | refine T.seq ?_ | refine T.region ?_ | (apply T.regionD wide; rfl) | refine TL.nil ?_ | refine N.next ?_ | refine N.inBlock ?_ | refine N.exit_same ?_ | refine N.exit_then ?_ | refine N.ret_then ?_ | refine N.ret_block ?_ | (apply N.exit_other; rfl) | refine T.ret ?_ | refine T.skip ?_ | refine T.exit ?_ | refine T.block ?_ | (apply T.cond_true; rfl) | (apply T.cond_false; rfl) | (apply T.test; rfl; (with_reducible (first | exact Is.ndec | exact Is.dec | exact Is.not | ((fail_if_success exact Is.litT); (fail_if_success exact Is.litF); exact Is.base))); intro _; rotate_left; intro _; rotate_right) | (apply TL.skip; rfl; rfl; rfl) | (apply TL.skip_none; rfl; rfl) | (apply GT.skip; rfl; rfl; rfl; decide +kernel) | (apply GS.grow; rfl; rfl; (apply X.callR0 (f := 14) Tryd.call14; rfl; rfl; (exact fun _ hs => c_head10 _ _ hs.sat hR)); intro _ _) | (apply TL.call0 (f := 14) Tryd.call14; rfl; rfl; rfl; (exact fun _ hs => c_head10 _ _ hs.sat hR)) | (apply GT.call0 (f := 14) Tryd.call14; rfl; rfl; rfl; rfl; rfl; (exact fun _ hs => c_head10 _ _ hs.sat hR); decide +kernel) | (apply TL.callE (f := 26) [intV t, intV d] Tryd.call26; rfl; rfl; rfl; rfl; (exact fun _ hs => hwh ▸ c_When t d _ _ hs.sat)) | (apply GT.callE (f := 26) [intV t, intV d] Tryd.call26; rfl; rfl; rfl; rfl; rfl; rfl; (exact fun _ hs => hwh ▸ c_When t d _ _ hs.sat); decide +kernel) | (apply TL.callE (f := 31) [intV a, intV b] Tryd.call31; rfl; rfl; rfl; rfl; (exact fun _ hs => hwin ▸ c_Window08 a b _ _ hs.sat)) | (apply GT.callE (f := 31) [intV a, intV b] Tryd.call31; rfl; rfl; rfl; rfl; rfl; rfl; (exact fun _ hs => hwin ▸ c_Window08 a b _ _ hs.sat); decide +kernel) | (apply TL.val; rfl; rfl; (first | exact vpure | exact vread)) | (apply GT.pure; rfl; rfl; rfl; rfl; (first | exact vpure); decide +kernel) | (apply GT.read; rfl; rfl; rfl; rfl; (first | exact vpure | exact vread); decide +kernel) | (apply GT.done; decide +kernel; apply N.ofQ) | (apply GT.adv; rfl) | (apply TL.x; rfl; rfl; (first | exact xgrow | exact xput); intro _ _) | (apply GS.grow; rfl; rfl; (first | exact xgrow); intro _ _) | (apply GS.eff; rfl; decide +kernel; rfl; (first | exact xput); intro _ _) | (apply TL.guard; rfl; rfl; rfl; (with_reducible (first | exact Is.ndec | exact Is.dec | exact Is.not | ((fail_if_success exact Is.litT); (fail_if_success exact Is.litF); exact Is.base))); intro _; rotate_left; intro _; rotate_right) | (apply GT.guard; rfl; rfl; rfl; rfl; (with_reducible (first | exact Is.ndec | exact Is.dec | exact Is.not | ((fail_if_success exact Is.litT); (fail_if_success exact Is.litF); exact Is.base))); intro _; rotate_left; intro _; rotate_right) | (apply GT.fork1; decide +kernel) | (apply GT.fork2 1; decide +kernel) | (apply GT.fork2 2; decide +kernel) | (apply GT.fork2 3; decide +kernel) | (apply GT.fork2 4; decide +kernel) | (apply GT.fork2 5; decide +kernel) | (apply GT.fork2 6; decide +kernel) | (apply GT.fork2 7; decide +kernel) | (apply GT.fork2 8; decide +kernel) | (apply GT.fork2 9; decide +kernel) | (apply GT.fork2 10; decide +kernel) | (apply GT.fork2 11; decide +kernel) | (apply GT.fork2 12; decide +kernel) | (apply GT.fork2 13; decide +kernel) | (apply GT.fork2 14; decide +kernel) | (apply GT.fork2 15; decide +kernel) | (apply GT.fork2 16; decide +kernel) | (apply GT.fork2 17; decide +kernel) | (apply GT.fork2 18; decide +kernel) | (apply GT.fork2 19; decide +kernel) | (apply GT.fork2 20; decide +kernel) | (apply GT.fork2 21; decide +kernel) | (apply GT.fork2 22; decide +kernel) | (apply GT.fork2 23; decide +kernel)))
    all_goals (try contradiction)
    all_goals (try (exfalso; omega))
    all_goals exact N.ret_bool rfl (by (exact rvx)) rfl
  | true =>
  by_cases h12 : a ≤ t - d ∧ t + d ≤ b
  rotate_left
  · repeat (any_goals (first | refine T.seq ?_ | refine T.region ?_ | (apply T.regionD wide; rfl) | refine TL.nil ?_ | refine N.next ?_ | refine N.inBlock ?_ | refine N.exit_same ?_ | refine N.exit_then ?_ | refine N.ret_then ?_ | refine N.ret_block ?_ | (apply N.exit_other; rfl) | refine T.ret ?_ | refine T.skip ?_ | refine T.exit ?_ | refine T.block ?_ | (apply T.cond_true; rfl) | (apply T.cond_false; rfl) | (apply T.test; rfl; (with_reducible (first | exact Is.ndec | exact Is.dec | exact Is.not | ((fail_if_success exact Is.litT); (fail_if_success exact Is.litF); exact Is.base))); intro _; rotate_left; intro _; rotate_right) | (apply TL.skip; rfl; rfl; rfl) | (apply TL.skip_none; rfl; rfl) | (apply GT.skip; rfl; rfl; rfl; decide +kernel) | (apply GS.grow; rfl; rfl; (apply X.callR0 (f := 14) Tryd.call14; rfl; rfl; (exact fun _ hs => c_head10 _ _ hs.sat hR)); intro _ _) | (apply TL.call0 (f := 14) Tryd.call14; rfl; rfl; rfl; (exact fun _ hs => c_head10 _ _ hs.sat hR)) | (apply GT.call0 (f := 14) Tryd.call14; rfl; rfl; rfl; rfl; rfl; (exact fun _ hs => c_head10 _ _ hs.sat hR); decide +kernel) | (apply TL.callE (f := 26) [intV t, intV d] Tryd.call26; rfl; rfl; rfl; rfl; (exact fun _ hs => hwh ▸ c_When t d _ _ hs.sat)) | (apply GT.callE (f := 26) [intV t, intV d] Tryd.call26; rfl; rfl; rfl; rfl; rfl; rfl; (exact fun _ hs => hwh ▸ c_When t d _ _ hs.sat); decide +kernel) | (apply TL.callE (f := 31) [intV a, intV b] Tryd.call31; rfl; rfl; rfl; rfl; (exact fun _ hs => hwin ▸ c_Window08 a b _ _ hs.sat)) | (apply GT.callE (f := 31) [intV a, intV b] Tryd.call31; rfl; rfl; rfl; rfl; rfl; rfl; (exact fun _ hs => hwin ▸ c_Window08 a b _ _ hs.sat); decide +kernel) | (apply TL.val; rfl; rfl; (first | exact vpure | exact vread)) | (apply GT.pure; rfl; rfl; rfl; rfl; (first | exact vpure); decide +kernel) | (apply GT.read; rfl; rfl; rfl; rfl; (first | exact vpure | exact vread); decide +kernel) | (apply GT.done; decide +kernel; apply N.ofQ) | (apply GT.adv; rfl) | (apply TL.x; rfl; rfl; (first | exact xgrow | exact xput); intro _ _) | (apply GS.grow; rfl; rfl; (first | exact xgrow); intro _ _) | (apply GS.eff; rfl; decide +kernel; rfl; (first | exact xput); intro _ _) | (apply TL.guard; rfl; rfl; rfl; (with_reducible (first | exact Is.ndec | exact Is.dec | exact Is.not | ((fail_if_success exact Is.litT); (fail_if_success exact Is.litF); exact Is.base))); intro _; rotate_left; intro _; rotate_right) | (apply GT.guard; rfl; rfl; rfl; rfl; (with_reducible (first | exact Is.ndec | exact Is.dec | exact Is.not | ((fail_if_success exact Is.litT); (fail_if_success exact Is.litF); exact Is.base))); intro _; rotate_left; intro _; rotate_right) | (apply GT.fork1; decide +kernel) | (apply GT.fork2 1; decide +kernel) | (apply GT.fork2 2; decide +kernel) | (apply GT.fork2 3; decide +kernel) | (apply GT.fork2 4; decide +kernel) | (apply GT.fork2 5; decide +kernel) | (apply GT.fork2 6; decide +kernel) | (apply GT.fork2 7; decide +kernel) | (apply GT.fork2 8; decide +kernel) | (apply GT.fork2 9; decide +kernel) | (apply GT.fork2 10; decide +kernel) | (apply GT.fork2 11; decide +kernel) | (apply GT.fork2 12; decide +kernel) | (apply GT.fork2 13; decide +kernel) | (apply GT.fork2 14; decide +kernel) | (apply GT.fork2 15; decide +kernel) | (apply GT.fork2 16; decide +kernel) | (apply GT.fork2 17; decide +kernel) | (apply GT.fork2 18; decide +kernel) | (apply GT.fork2 19; decide +kernel) | (apply GT.fork2 20; decide +kernel) | (apply GT.fork2 21; decide +kernel) | (apply GT.fork2 22; decide +kernel) | (apply GT.fork2 23; decide +kernel)))
    all_goals (try contradiction)
    all_goals (try (exfalso; omega))
    all_goals exact N.ret_bool rfl (by (exact rvx)) rfl
  obtain ⟨h1, h2⟩ := h12
  repeat (any_goals (first | refine T.seq ?_ | refine T.region ?_ | (apply T.regionD wide; rfl) | refine TL.nil ?_ | refine N.next ?_ | refine N.inBlock ?_ | refine N.exit_same ?_ | refine N.exit_then ?_ | refine N.ret_then ?_ | refine N.ret_block ?_ | (apply N.exit_other; rfl) | refine T.ret ?_ | refine T.skip ?_ | refine T.exit ?_ | refine T.block ?_ | (apply T.cond_true; rfl) | (apply T.cond_false; rfl) | (apply T.test; rfl; (with_reducible (first | exact Is.ndec | exact Is.dec | exact Is.not | ((fail_if_success exact Is.litT); (fail_if_success exact Is.litF); exact Is.base))); intro _; rotate_left; intro _; rotate_right) | (apply TL.skip; rfl; rfl; rfl) | (apply TL.skip_none; rfl; rfl) | (apply GT.skip; rfl; rfl; rfl; decide +kernel) | (apply GS.grow; rfl; rfl; (apply X.callR0 (f := 14) Tryd.call14; rfl; rfl; (exact fun _ hs => c_head10 _ _ hs.sat hR)); intro _ _) | (apply TL.call0 (f := 14) Tryd.call14; rfl; rfl; rfl; (exact fun _ hs => c_head10 _ _ hs.sat hR)) | (apply GT.call0 (f := 14) Tryd.call14; rfl; rfl; rfl; rfl; rfl; (exact fun _ hs => c_head10 _ _ hs.sat hR); decide +kernel) | (apply TL.callE (f := 26) [intV t, intV d] Tryd.call26; rfl; rfl; rfl; rfl; (exact fun _ hs => hwh ▸ c_When t d _ _ hs.sat)) | (apply GT.callE (f := 26) [intV t, intV d] Tryd.call26; rfl; rfl; rfl; rfl; rfl; rfl; (exact fun _ hs => hwh ▸ c_When t d _ _ hs.sat); decide +kernel) | (apply TL.callE (f := 31) [intV a, intV b] Tryd.call31; rfl; rfl; rfl; rfl; (exact fun _ hs => hwin ▸ c_Window08 a b _ _ hs.sat)) | (apply GT.callE (f := 31) [intV a, intV b] Tryd.call31; rfl; rfl; rfl; rfl; rfl; rfl; (exact fun _ hs => hwin ▸ c_Window08 a b _ _ hs.sat); decide +kernel) | (apply TL.val; rfl; rfl; (first | exact vpure | exact vread)) | (apply GT.pure; rfl; rfl; rfl; rfl; (first | exact vpure); decide +kernel) | (apply GT.read; rfl; rfl; rfl; rfl; (first | exact vpure | exact vread); decide +kernel) | (apply GT.done; decide +kernel; apply N.ofQ) | (apply GT.adv; rfl) | (apply TL.x; rfl; rfl; (first | exact xgrow | exact xput); intro _ _) | (apply GS.grow; rfl; rfl; (first | exact xgrow); intro _ _) | (apply GS.eff; rfl; decide +kernel; rfl; (first | exact xput); intro _ _) | (apply TL.guard; rfl; rfl; rfl; (with_reducible (first | exact Is.ndec | exact Is.dec | exact Is.not | ((fail_if_success exact Is.litT); (fail_if_success exact Is.litF); exact Is.base))); intro _; rotate_left; intro _; rotate_right) | (apply GT.guard; rfl; rfl; rfl; rfl; (with_reducible (first | exact Is.ndec | exact Is.dec | exact Is.not | ((fail_if_success exact Is.litT); (fail_if_success exact Is.litF); exact Is.base))); intro _; rotate_left; intro _; rotate_right) | (apply GT.fork1; decide +kernel) | (apply GT.fork2 1; decide +kernel) | (apply GT.fork2 2; decide +kernel) | (apply GT.fork2 3; decide +kernel) | (apply GT.fork2 4; decide +kernel) | (apply GT.fork2 5; decide +kernel) | (apply GT.fork2 6; decide +kernel) | (apply GT.fork2 7; decide +kernel) | (apply GT.fork2 8; decide +kernel) | (apply GT.fork2 9; decide +kernel) | (apply GT.fork2 10; decide +kernel) | (apply GT.fork2 11; decide +kernel) | (apply GT.fork2 12; decide +kernel) | (apply GT.fork2 13; decide +kernel) | (apply GT.fork2 14; decide +kernel) | (apply GT.fork2 15; decide +kernel) | (apply GT.fork2 16; decide +kernel) | (apply GT.fork2 17; decide +kernel) | (apply GT.fork2 18; decide +kernel) | (apply GT.fork2 19; decide +kernel) | (apply GT.fork2 20; decide +kernel) | (apply GT.fork2 21; decide +kernel) | (apply GT.fork2 22; decide +kernel) | (apply GT.fork2 23; decide +kernel)))
  all_goals (try contradiction)
  all_goals (try (exfalso; omega))
  rename_i bz _
  apply T.blkRow 0 1 1; rfl; rfl; decide
  refine T.loop (G := Nat × Hp × Nat × Nat × List Bytes) (fun g => [(0, labels.v), (1, intV a), (2, intV b), (3, intV t), (4, intV d), (11, .bool true), (12, .slice (some ⟨g.2.2.1, 0, none⟩) (g.1 + 1) g.2.2.2.1), (70, labels.v), (71, intV labels.len), (72, intV g.1)]) (fun g => g.2.1) (fun g => [.row (.slice (some ⟨g.2.2.1, 0, none⟩) (g.1 + 1) g.2.2.2.1) 9 1 (g.1 + 1) (encs g.2.2.2.2)])
    (fun g => g.1 ≤ labels.len ∧ H.le g.2.1 ∧ g.2.2.2.2.length = g.1 + 1 ∧ Zones g.2.2.2.2) (fun g => labels.len - g.1) (0, H, bz, 1, [[46]]) ⟨Nat.zero_le _, .refl _, rfl, zones_root⟩ (by (repeat (first | exact True.intro | refine ⟨rfl, ?_⟩ | refine Sub.int rfl (by omega) ?_))) rfl (List.Sublist.refl _) ?_
  rintro ⟨k, H1, bz, cz, zs⟩ ⟨hk, hle, hzl, hz⟩
  simp only at hk hle hzl hz ⊢
  have hzg : ∀ x ∈ zs, LenOk x := fun x hx => by
    obtain ⟨i, hi, rfl⟩ := List.mem_iff_getElem.1 hx
    exact Nat.le_trans (nameOK_le (hz.name i hi)) (by decide)
  by_cases hlt : k < labels.len
  · have hkl : k < labels.els.length := by omega
    have hg1 := hl.mono hle
    have hR1 := Rules.mono hle hR
    obtain ⟨z, hzz⟩ : ∃ z, zs[k]? = some z := ⟨_, List.getElem?_eq_getElem (by omega)⟩
    have hlast : zs.getLast? = some z := by rw [List.getLast?_eq_getElem?, hzl]; exact hzz
    have hzn : nameOK z = true := by
      have := hz.name k (by omega)
      rwa [(List.getElem?_eq_some_iff.1 hzz).2] at this
    have hz60 := nameOK_le hzn
    have hp8 := (parts_labs hzn).2
    have hsg : LenOk (labels.els[k]'hkl) := hl.els _ (List.getElem_mem hkl)
    obtain ⟨⟨nx, e⟩, hj⟩ : ∃ r, joinC (labels.els[k]'hkl :: parts z) = r := ⟨_, rfl⟩
    have hjt : joinC (labels.els[k]'hkl :: parts z) = (nx, e) := hj
    by_cases he : e = 0 ∧ ¬ labels.els[k]'hkl = [42]
    · obtain ⟨rfl, hst⟩ := he
      have hz' := zones_up hz hlast (show (joinC (labels.els[k]'hkl :: parts z)).2 = 0 by rw [hj]) hst
      rw [hj] at hz'
      repeat (any_goals (first | refine T.seq ?_ | refine T.region ?_ | (apply T.regionD wide; rfl) | refine TL.nil ?_ | refine N.next ?_ | refine N.inBlock ?_ | refine N.exit_same ?_ | refine N.exit_then ?_ | refine N.ret_then ?_ | refine N.ret_block ?_ | (apply N.exit_other; rfl) | refine T.ret ?_ | refine T.skip ?_ | refine T.exit ?_ | refine T.block ?_ | (apply T.cond_true; rfl) | (apply T.cond_false; rfl) | (apply T.test; rfl; (with_reducible (first | exact Is.ndec | exact Is.dec | exact Is.not | ((fail_if_success exact Is.litT); (fail_if_success exact Is.litF); exact Is.base))); intro _; rotate_left; intro _; rotate_right) | (apply TL.skip; rfl; rfl; rfl) | (apply TL.skip_none; rfl; rfl) | (apply GT.skip; rfl; rfl; rfl; decide +kernel) | (apply TL.val; rfl; rfl; (apply V.elem (j := k); rfl; rfl; rfl; rfl; rfl; omega; (show k < k + 1; omega); rfl)) | (apply GT.pure; rfl; rfl; rfl; rfl; (apply V.elem (j := k); rfl; rfl; rfl; rfl; rfl; omega; (show k < k + 1; omega); rfl); decide +kernel) | (apply GT.read; rfl; rfl; rfl; rfl; (apply V.elem (j := k); rfl; rfl; rfl; rfl; rfl; omega; (show k < k + 1; omega); rfl); decide +kernel) | (apply TL.val; rfl; rfl; (apply V.load_own; rfl; rfl; rfl; (exact lmem); exact encs_atW (j := 0) hzz rfl (by show 0 + k * 1 = k * 1 + 0; omega))) | (apply GT.pure; rfl; rfl; rfl; rfl; (apply V.load_own; rfl; rfl; rfl; (exact lmem); exact encs_atW (j := 0) hzz rfl (by show 0 + k * 1 = k * 1 + 0; omega)); decide +kernel) | (apply GT.read; rfl; rfl; rfl; rfl; (apply V.load_own; rfl; rfl; rfl; (exact lmem); exact encs_atW (j := 0) hzz rfl (by show 0 + k * 1 = k * 1 + 0; omega)); decide +kernel) | (apply TL.x; rfl; rfl; (apply X.callFE (f := 33) [strV z] Tryd.call33; rfl; rfl; rfl; exact (fun _ hs => c_Parts z _ _ hs.sat (by omega))); intro p hp; have hpl := hp.1.2.len; have hpe := hp.1.1; rw [hpe] at hpl; apply TL.blkRow 0 1 1; rfl; rfl; decide) | (apply TL.x; rfl; rfl; (apply X.appendSlc 0 p.2; rfl; rfl; rfl; rfl; rfl; rfl; rfl; rfl; rfl; rfl; exact hp.1.2; (show (1 + p.2.len) * 16 ≤ _; omega); (show 1 + p.2.len ≤ _; omega)); intro v86 _; apply TL.frzRowE 0 (labels.els[k]'hkl :: p.2.els) rfl rfl rfl (by rw [hpe]; show (parts z).length + 1 = 1 + p.2.len; omega) (by intro x hx; rcases List.mem_cons.1 hx with rfl | hx; exact hsg; exact hp.1.2.els x hx); intro H4 sa e1 e2 hsa hle4; subst e1; have hsl := hsa.len; rw [e2, hpe] at hsl; simp only [List.length_cons] at hsl; have hjj : joinC sa.els = (nx, 0) := (by rw [e2, hpe]; exact hj)) | (apply TL.callE (f := 32) [sa.v] Tryd.call32; rfl; rfl; rfl; rfl; (exact fun _ hs => c_JoinV hjj hs.sat hsa (by omega))) | (apply GT.callE (f := 32) [sa.v] Tryd.call32; rfl; rfl; rfl; rfl; rfl; rfl; (exact fun _ hs => c_JoinV hjj hs.sat hsa (by omega)); decide +kernel) | (apply TL.x; rfl; rfl; (apply X.append1 1; rfl; rfl; rfl; rfl; rfl; rfl; rfl; rfl; rfl; exact List.Mem.head _; rfl; rfl; rfl; (refine Nat.le_trans (Nat.mul_le_mul_left _ (show _ ≤ 1000 by decide)) ?_; show ((k + 1) + 1) * 1000 ≤ _; omega); (show (k + 1) + 1 ≤ _; omega)); intro p2 _) | (apply TL.val; rfl; rfl; (first | exact vpure | exact vread)) | (apply GT.pure; rfl; rfl; rfl; rfl; (first | exact vpure); decide +kernel) | (apply GT.read; rfl; rfl; rfl; rfl; (first | exact vpure | exact vread); decide +kernel) | (apply GT.done; decide +kernel; apply N.ofQ) | (apply GT.adv; rfl) | (apply TL.x; rfl; rfl; (first | exact xgrow | exact xput); intro _ _) | (apply GS.grow; rfl; rfl; (first | exact xgrow); intro _ _) | (apply GS.eff; rfl; decide +kernel; rfl; (first | exact xput); intro _ _) | (apply TL.guard; rfl; rfl; rfl; (with_reducible (first | exact Is.ndec | exact Is.dec | exact Is.not | ((fail_if_success exact Is.litT); (fail_if_success exact Is.litF); exact Is.base))); intro _; rotate_left; intro _; rotate_right) | (apply GT.guard; rfl; rfl; rfl; rfl; (with_reducible (first | exact Is.ndec | exact Is.dec | exact Is.not | ((fail_if_success exact Is.litT); (fail_if_success exact Is.litF); exact Is.base))); intro _; rotate_left; intro _; rotate_right) | (apply GT.fork1; decide +kernel) | (apply GT.fork2 1; decide +kernel) | (apply GT.fork2 2; decide +kernel) | (apply GT.fork2 3; decide +kernel) | (apply GT.fork2 4; decide +kernel) | (apply GT.fork2 5; decide +kernel) | (apply GT.fork2 6; decide +kernel) | (apply GT.fork2 7; decide +kernel) | (apply GT.fork2 8; decide +kernel) | (apply GT.fork2 9; decide +kernel) | (apply GT.fork2 10; decide +kernel) | (apply GT.fork2 11; decide +kernel) | (apply GT.fork2 12; decide +kernel) | (apply GT.fork2 13; decide +kernel) | (apply GT.fork2 14; decide +kernel) | (apply GT.fork2 15; decide +kernel) | (apply GT.fork2 16; decide +kernel) | (apply GT.fork2 17; decide +kernel) | (apply GT.fork2 18; decide +kernel) | (apply GT.fork2 19; decide +kernel) | (apply GT.fork2 20; decide +kernel) | (apply GT.fork2 21; decide +kernel) | (apply GT.fork2 22; decide +kernel) | (apply GT.fork2 23; decide +kernel)))
      all_goals (try contradiction)
      all_goals (try (exfalso; omega))
      refine N.round (k + 1, _, p2.1, p2.2, zs ++ [nx]) ⟨by show k + 1 ≤ _; omega, (hle.trans hp.2).trans hle4, by show (zs ++ [nx]).length = _; rw [List.length_append, hzl]; rfl, hz'⟩ (by show labels.len - (k + 1) < labels.len - k; omega) (by (repeat (first | exact True.intro | refine ⟨rfl, ?_⟩ | refine Sub.int rfl (by omega) ?_))) rfl ?_
      simp only [encs_snoc]
      exact List.Sublist.cons _ (List.Sublist.refl _)
    · repeat (any_goals (first | refine T.seq ?_ | refine T.region ?_ | (apply T.regionD wide; rfl) | refine TL.nil ?_ | refine N.next ?_ | refine N.inBlock ?_ | refine N.exit_same ?_ | refine N.exit_then ?_ | refine N.ret_then ?_ | refine N.ret_block ?_ | (apply N.exit_other; rfl) | refine T.ret ?_ | refine T.skip ?_ | refine T.exit ?_ | refine T.block ?_ | (apply T.cond_true; rfl) | (apply T.cond_false; rfl) | (apply T.test; rfl; (with_reducible (first | exact Is.ndec | exact Is.dec | exact Is.not | ((fail_if_success exact Is.litT); (fail_if_success exact Is.litF); exact Is.base))); intro _; rotate_left; intro _; rotate_right) | (apply TL.skip; rfl; rfl; rfl) | (apply TL.skip_none; rfl; rfl) | (apply GT.skip; rfl; rfl; rfl; decide +kernel) | (apply TL.val; rfl; rfl; (apply V.elem (j := k); rfl; rfl; rfl; rfl; rfl; omega; (show k < k + 1; omega); rfl)) | (apply GT.pure; rfl; rfl; rfl; rfl; (apply V.elem (j := k); rfl; rfl; rfl; rfl; rfl; omega; (show k < k + 1; omega); rfl); decide +kernel) | (apply GT.read; rfl; rfl; rfl; rfl; (apply V.elem (j := k); rfl; rfl; rfl; rfl; rfl; omega; (show k < k + 1; omega); rfl); decide +kernel) | (apply TL.val; rfl; rfl; (apply V.load_own; rfl; rfl; rfl; (exact lmem); exact encs_atW (j := 0) hzz rfl (by show 0 + k * 1 = k * 1 + 0; omega))) | (apply GT.pure; rfl; rfl; rfl; rfl; (apply V.load_own; rfl; rfl; rfl; (exact lmem); exact encs_atW (j := 0) hzz rfl (by show 0 + k * 1 = k * 1 + 0; omega)); decide +kernel) | (apply GT.read; rfl; rfl; rfl; rfl; (apply V.load_own; rfl; rfl; rfl; (exact lmem); exact encs_atW (j := 0) hzz rfl (by show 0 + k * 1 = k * 1 + 0; omega)); decide +kernel) | (apply TL.x; rfl; rfl; (apply X.callFE (f := 33) [strV z] Tryd.call33; rfl; rfl; rfl; exact (fun _ hs => c_Parts z _ _ hs.sat (by omega))); intro p hp; have hpl := hp.1.2.len; have hpe := hp.1.1; rw [hpe] at hpl; apply TL.blkRow 0 1 1; rfl; rfl; decide) | (apply TL.x; rfl; rfl; (apply X.appendSlc 0 p.2; rfl; rfl; rfl; rfl; rfl; rfl; rfl; rfl; rfl; rfl; exact hp.1.2; (show (1 + p.2.len) * 16 ≤ _; omega); (show 1 + p.2.len ≤ _; omega)); intro v86 _; apply TL.frzRowE 0 (labels.els[k]'hkl :: p.2.els) rfl rfl rfl (by rw [hpe]; show (parts z).length + 1 = 1 + p.2.len; omega) (by intro x hx; rcases List.mem_cons.1 hx with rfl | hx; exact hsg; exact hp.1.2.els x hx); intro H4 sa e1 e2 hsa hle4; subst e1; have hsl := hsa.len; rw [e2, hpe] at hsl; simp only [List.length_cons] at hsl; have hjj : joinC sa.els = (nx, e) := (by rw [e2, hpe]; exact hj)) | (apply TL.callE (f := 32) [sa.v] Tryd.call32; rfl; rfl; rfl; rfl; (exact fun _ hs => c_JoinV hjj hs.sat hsa (by omega))) | (apply GT.callE (f := 32) [sa.v] Tryd.call32; rfl; rfl; rfl; rfl; rfl; rfl; (exact fun _ hs => c_JoinV hjj hs.sat hsa (by omega)); decide +kernel) | (apply TL.x; rfl; rfl; (apply X.append1 1; rfl; rfl; rfl; rfl; rfl; rfl; rfl; rfl; rfl; exact List.Mem.head _; rfl; rfl; rfl; (refine Nat.le_trans (Nat.mul_le_mul_left _ (show _ ≤ 1000 by decide)) ?_; show ((k + 1) + 1) * 1000 ≤ _; omega); (show (k + 1) + 1 ≤ _; omega)); intro p2 _) | (apply TL.val; rfl; rfl; (first | exact vpure | exact vread)) | (apply GT.pure; rfl; rfl; rfl; rfl; (first | exact vpure); decide +kernel) | (apply GT.read; rfl; rfl; rfl; rfl; (first | exact vpure | exact vread); decide +kernel) | (apply GT.done; decide +kernel; apply N.ofQ) | (apply GT.adv; rfl) | (apply TL.x; rfl; rfl; (first | exact xgrow | exact xput); intro _ _) | (apply GS.grow; rfl; rfl; (first | exact xgrow); intro _ _) | (apply GS.eff; rfl; decide +kernel; rfl; (first | exact xput); intro _ _) | (apply TL.guard; rfl; rfl; rfl; (with_reducible (first | exact Is.ndec | exact Is.dec | exact Is.not | ((fail_if_success exact Is.litT); (fail_if_success exact Is.litF); exact Is.base))); intro _; rotate_left; intro _; rotate_right) | (apply GT.guard; rfl; rfl; rfl; rfl; (with_reducible (first | exact Is.ndec | exact Is.dec | exact Is.not | ((fail_if_success exact Is.litT); (fail_if_success exact Is.litF); exact Is.base))); intro _; rotate_left; intro _; rotate_right) | (apply GT.fork1; decide +kernel) | (apply GT.fork2 1; decide +kernel) | (apply GT.fork2 2; decide +kernel) | (apply GT.fork2 3; decide +kernel) | (apply GT.fork2 4; decide +kernel) | (apply GT.fork2 5; decide +kernel) | (apply GT.fork2 6; decide +kernel) | (apply GT.fork2 7; decide +kernel) | (apply GT.fork2 8; decide +kernel) | (apply GT.fork2 9; decide +kernel) | (apply GT.fork2 10; decide +kernel) | (apply GT.fork2 11; decide +kernel) | (apply GT.fork2 12; decide +kernel) | (apply GT.fork2 13; decide +kernel) | (apply GT.fork2 14; decide +kernel) | (apply GT.fork2 15; decide +kernel) | (apply GT.fork2 16; decide +kernel) | (apply GT.fork2 17; decide +kernel) | (apply GT.fork2 18; decide +kernel) | (apply GT.fork2 19; decide +kernel) | (apply GT.fork2 20; decide +kernel) | (apply GT.fork2 21; decide +kernel) | (apply GT.fork2 22; decide +kernel) | (apply GT.fork2 23; decide +kernel)))
      all_goals (try contradiction)
      all_goals (try (exfalso; omega))
      all_goals first
        | exact N.ret_bool rfl (by (exact rvx)) rfl
        | (exfalso; exact he ⟨by omega, by assumption⟩)
  have hke : k = labels.len := by omega
  have hk5 : zs.length ≤ 6 := by omega
  repeat (any_goals (first | refine T.seq ?_ | refine T.region ?_ | (apply T.regionD wide; rfl) | refine TL.nil ?_ | refine N.next ?_ | refine N.inBlock ?_ | refine N.exit_same ?_ | refine N.exit_then ?_ | refine N.ret_then ?_ | refine N.ret_block ?_ | (apply N.exit_other; rfl) | refine T.ret ?_ | refine T.skip ?_ | refine T.exit ?_ | refine T.block ?_ | (apply T.cond_true; rfl) | (apply T.cond_false; rfl) | (apply T.test; rfl; (with_reducible (first | exact Is.ndec | exact Is.dec | exact Is.not | ((fail_if_success exact Is.litT); (fail_if_success exact Is.litF); exact Is.base))); intro _; rotate_left; intro _; rotate_right) | (apply TL.skip; rfl; rfl; rfl) | (apply TL.skip_none; rfl; rfl) | (apply GT.skip; rfl; rfl; rfl; decide +kernel) | (apply TL.x; rfl; rfl; (apply X.makeMap qV; rfl); intro bm _) | (apply TL.x; rfl; rfl; (apply X.alloc (d := 18); rfl; rfl; rfl); intro ba _) | (apply TL.val; rfl; rfl; (first | exact vpure | exact vread)) | (apply GT.pure; rfl; rfl; rfl; rfl; (first | exact vpure); decide +kernel) | (apply GT.read; rfl; rfl; rfl; rfl; (first | exact vpure | exact vread); decide +kernel) | (apply GT.done; decide +kernel; apply N.ofQ) | (apply GT.adv; rfl) | (apply TL.x; rfl; rfl; (first | exact xgrow | exact xput); intro _ _) | (apply GS.grow; rfl; rfl; (first | exact xgrow); intro _ _) | (apply GS.eff; rfl; decide +kernel; rfl; (first | exact xput); intro _ _) | (apply TL.guard; rfl; rfl; rfl; (with_reducible (first | exact Is.ndec | exact Is.dec | exact Is.not | ((fail_if_success exact Is.litT); (fail_if_success exact Is.litF); exact Is.base))); intro _; rotate_left; intro _; rotate_right) | (apply GT.guard; rfl; rfl; rfl; rfl; (with_reducible (first | exact Is.ndec | exact Is.dec | exact Is.not | ((fail_if_success exact Is.litT); (fail_if_success exact Is.litF); exact Is.base))); intro _; rotate_left; intro _; rotate_right) | (apply GT.fork1; decide +kernel) | (apply GT.fork2 1; decide +kernel) | (apply GT.fork2 2; decide +kernel) | (apply GT.fork2 3; decide +kernel) | (apply GT.fork2 4; decide +kernel) | (apply GT.fork2 5; decide +kernel) | (apply GT.fork2 6; decide +kernel) | (apply GT.fork2 7; decide +kernel) | (apply GT.fork2 8; decide +kernel) | (apply GT.fork2 9; decide +kernel) | (apply GT.fork2 10; decide +kernel) | (apply GT.fork2 11; decide +kernel) | (apply GT.fork2 12; decide +kernel) | (apply GT.fork2 13; decide +kernel) | (apply GT.fork2 14; decide +kernel) | (apply GT.fork2 15; decide +kernel) | (apply GT.fork2 16; decide +kernel) | (apply GT.fork2 17; decide +kernel) | (apply GT.fork2 18; decide +kernel) | (apply GT.fork2 19; decide +kernel) | (apply GT.fork2 20; decide +kernel) | (apply GT.fork2 21; decide +kernel) | (apply GT.fork2 22; decide +kernel) | (apply GT.fork2 23; decide +kernel)))
  all_goals (try contradiction)
  all_goals (try (exfalso; omega))
  rename_i bm _ ba _
  apply T.frzRowX 2 zs; rfl; rfl; rfl; exact hzl; exact hzg
  intro H2 hzs hle2
  have hR2 := Rules.mono (hle.trans hle2) hR
  refine T.loop (G := Nat × Hp × List (Question × Signed) × RSet) (fun g => [(0, labels.v), (1, intV a), (2, intV b), (3, intV t), (4, intV d), (11, .bool true), (12, .slice (some ⟨bz, 0, none⟩) (k + 1) cz), (17, .map (some bm)), (18, ptrT ba), (103, .slice (some ⟨bz, 0, none⟩) (k + 1) cz), (104, intV (k + 1 : Nat)), (105, intV g.1)]) (fun g => g.2.1) (fun g => [.blk ba 25 (enc g.2.2.2), .any bm (mObj qV (mSig g.2.2.1))])
    (fun g => g.1 ≤ k + 1 ∧ H2.le g.2.1 ∧ WM zs a b g.1 g.2.2.1 ∧ (∀ p ∈ g.2.2.1, Enc.good g.2.1 p.2) ∧ Enc.good g.2.1 g.2.2.2 ∧ (0 < g.1 → g.2.2.2.c = wSet [46] 6 0)) (fun g => k + 1 - g.1) (0, H2, [], ⟨[], 0, 0, Slc.nil _⟩)
    ⟨Nat.zero_le _, .refl _, WM.nil, fun p hp => absurd hp List.not_mem_nil, ⟨(show LenOk ([] : Bytes) by decide), show I64 0 by decide, show I64 0 by decide, Slc.nil_good⟩, fun h => absurd h (Nat.lt_irrefl 0)⟩ (by (repeat (first | exact True.intro | refine ⟨rfl, ?_⟩ | refine Sub.int rfl (by omega) ?_))) rfl (List.Sublist.refl _) ?_
  rintro ⟨i, H3, l, an⟩ ⟨hi, hle3, hwm, hlg, hag, han⟩
  simp only at hi hle3 hwm hlg hag han ⊢
  have hzs3 := hzs.mono hle3
  have hR3 := Rules.mono hle3 hR2
  by_cases hil : i < k + 1
  · have hizl : i < zs.length := by omega
    have hzi : LenOk zs[i] := hzg _ (List.getElem_mem hizl)
    have hgi := getD_at hizl
    obtain ⟨g7, hg7, hgg7⟩ := wK_sig hz hk5 hwin hizl ha hb
    have hrem : ((i : Nat) : Int).tmod 3 = ((i % 3 : Nat) : Int) := by first | rfl | (rw [Int.tmod_eq_emod_of_nonneg (by omega)]; omega)
    have hnew7 := hwm.new7 hz hizl
    rw [hgi] at hnew7
    cases i with
    | zero =>
      repeat (any_goals (first | refine T.seq ?_ | refine T.region ?_ | (apply T.regionD wide; rfl) | refine TL.nil ?_ | refine N.next ?_ | refine N.inBlock ?_ | refine N.exit_same ?_ | refine N.exit_then ?_ | refine N.ret_then ?_ | refine N.ret_block ?_ | (apply N.exit_other; rfl) | refine T.ret ?_ | refine T.skip ?_ | refine T.exit ?_ | refine T.block ?_ | (apply T.cond_true; rfl) | (apply T.cond_false; rfl) | (apply T.test; rfl; (with_reducible (first | exact Is.ndec | exact Is.dec | exact Is.not | ((fail_if_success exact Is.litT); (fail_if_success exact Is.litF); exact Is.base))); intro _; rotate_left; intro _; rotate_right) | (apply TL.skip; rfl; rfl; rfl) | (apply TL.skip_none; rfl; rfl) | (apply GT.skip; rfl; rfl; rfl; decide +kernel) | (apply TL.val; rfl; rfl; (apply V.elem (j := 0); rfl; rfl; rfl; rfl; rfl; omega; (show 0 < k + 1; omega); rfl)) | (apply GT.pure; rfl; rfl; rfl; rfl; (apply V.elem (j := 0); rfl; rfl; rfl; rfl; rfl; omega; (show 0 < k + 1; omega); rfl); decide +kernel) | (apply GT.read; rfl; rfl; rfl; rfl; (apply V.elem (j := 0); rfl; rfl; rfl; rfl; rfl; omega; (show 0 < k + 1; omega); rfl); decide +kernel) | (apply TL.val; rfl; rfl; (apply V.load_H; rfl; rfl; rfl; exact hzs3.cell0 hil rfl)) | (apply GT.pure; rfl; rfl; rfl; rfl; (apply V.load_H; rfl; rfl; rfl; exact hzs3.cell0 hil rfl); decide +kernel) | (apply GT.read; rfl; rfl; rfl; rfl; (apply V.load_H; rfl; rfl; rfl; exact hzs3.cell0 hil rfl); decide +kernel) | (apply TL.val; rfl; rfl; (apply V.remG (m := ((0 % 3 : Nat) : Int)); rfl; rfl; exact hrem; exact wrap_i64 (by constructor <;> omega); decide)) | (apply GT.pure; rfl; rfl; rfl; rfl; (apply V.remG (m := ((0 % 3 : Nat) : Int)); rfl; rfl; exact hrem; exact wrap_i64 (by constructor <;> omega); decide); decide +kernel) | (apply GT.read; rfl; rfl; rfl; rfl; (apply V.remG (m := ((0 % 3 : Nat) : Int)); rfl; rfl; exact hrem; exact wrap_i64 (by constructor <;> omega); decide); decide +kernel) | (apply TL.val; rfl; rfl; (apply V.build; rfl; rfl; rfl; rfl; rfl; rfl)) | (apply GT.pure; rfl; rfl; rfl; rfl; (apply V.build; rfl; rfl; rfl; rfl; rfl; rfl); decide +kernel) | (apply GT.read; rfl; rfl; rfl; rfl; (apply V.build; rfl; rfl; rfl; rfl; rfl; rfl); decide +kernel) | (apply TL.x; rfl; rfl; (apply X.storeTo 0 (enc (wKey 0)); rfl; rfl; rfl; rfl; rfl; rfl; rfl; rfl; rfl; rfl); intro _ _) | (apply GS.eff; rfl; decide +kernel; rfl; (apply X.storeTo 0 (enc (wKey 0)); rfl; rfl; rfl; rfl; rfl; rfl; rfl; rfl; rfl; rfl); intro _ _) | (apply TL.x; rfl; rfl; (apply X.buildSlice1 (d := 121); rfl; rfl; rfl; rfl; rfl; rfl; rfl; rfl); intro b121 _; apply TL.frzBlk 0 (α := Datum) (els := [wDatum 0]) (m := 1) rfl rfl rfl (by decide) (one_good (wDatum_good (by omega) _)); intro H4 h121 hle4; have hR4 := Rules.mono hle4 hR3; have hg7s : Enc.good H4 (⟨zs[0], 7, 0, ⟨some ⟨b121, 0, none⟩, 1, 1, [wDatum 0]⟩⟩ : RSet) := ⟨hzi, show I64 7 by decide, show I64 0 by decide, h121⟩) | (apply TL.x; rfl; rfl; (apply X.storeTo 0 (enc (⟨zs[0], 7, 0, ⟨some ⟨b121, 0, none⟩, 1, 1, [wDatum 0]⟩⟩ : RSet)); rfl; rfl; rfl; rfl; rfl; rfl; rfl; rfl; rfl; rfl); intro _ _) | (apply GS.eff; rfl; decide +kernel; rfl; (apply X.storeTo 0 (enc (⟨zs[0], 7, 0, ⟨some ⟨b121, 0, none⟩, 1, 1, [wDatum 0]⟩⟩ : RSet)); rfl; rfl; rfl; rfl; rfl; rfl; rfl; rfl; rfl; rfl); intro _ _) | (apply TL.callE (f := 27) [.agg (enc (⟨zs[0], 7, 0, ⟨some ⟨b121, 0, none⟩, 1, 1, [wDatum 0]⟩⟩ : RSet)).toArray, strV zs[0], .agg (enc (wKey 0)).toArray, intV a, intV b] Tryd.call27; rfl; rfl; rfl; rfl; (exact fun _ hs => c_SignV (s := ⟨zs[0], 7, 0, ⟨some ⟨b121, 0, none⟩, 1, 1, [wDatum 0]⟩⟩) hg7 hs.sat hR4 hg7s hzi (wKey_good (by omega) _) ha hb)) | (apply GT.callE (f := 27) [.agg (enc (⟨zs[0], 7, 0, ⟨some ⟨b121, 0, none⟩, 1, 1, [wDatum 0]⟩⟩ : RSet)).toArray, strV zs[0], .agg (enc (wKey 0)).toArray, intV a, intV b] Tryd.call27; rfl; rfl; rfl; rfl; rfl; rfl; (exact fun _ hs => c_SignV (s := ⟨zs[0], 7, 0, ⟨some ⟨b121, 0, none⟩, 1, 1, [wDatum 0]⟩⟩) hg7 hs.sat hR4 hg7s hzi (wKey_good (by omega) _) ha hb); decide +kernel) | (apply TL.x; rfl; rfl; (apply X.storeTo 0 (enc g7); rfl; rfl; rfl; rfl; rfl; rfl; rfl; rfl; rfl; rfl); intro _ _) | (apply GS.eff; rfl; decide +kernel; rfl; (apply X.storeTo 0 (enc g7); rfl; rfl; rfl; rfl; rfl; rfl; rfl; rfl; rfl; rfl); intro _ _) | (apply TL.x; rfl; rfl; (apply X.buildSlice1 (d := 141); rfl; rfl; rfl; rfl; rfl; rfl; rfl; rfl); intro b141 _; apply TL.frzBlk 0 (α := Sig) (els := [g7]) (m := 1) rfl rfl rfl (by decide) (one_good (hgg7 _)); intro H5 h141 hle5) | (apply TL.x; rfl; rfl; (apply X.mputG 4 (⟨zs[0], 7⟩ : Question); rfl; rfl; exact key_q; rfl; rfl; rfl; rfl; (apply mput_to (aPut_newG (f := fSig) (x := ⟨⟨zs[0], 7, 0, ⟨some ⟨b121, 0, none⟩, 1, 1, [wDatum 0]⟩⟩, ⟨some ⟨b141, 0, none⟩, 1, 1, [g7]⟩⟩) hnew7)); simp only [List.eraseIdx_cons_zero, List.eraseIdx_cons_succ, List.set_cons_zero, List.set_cons_succ]; rfl); intro _ _) | (apply GS.eff; rfl; decide +kernel; rfl; (apply X.mputG 4 (⟨zs[0], 7⟩ : Question); rfl; rfl; exact key_q; rfl; rfl; rfl; rfl; (apply mput_to (aPut_newG (f := fSig) (x := ⟨⟨zs[0], 7, 0, ⟨some ⟨b121, 0, none⟩, 1, 1, [wDatum 0]⟩⟩, ⟨some ⟨b141, 0, none⟩, 1, 1, [g7]⟩⟩) hnew7)); simp only [List.eraseIdx_cons_zero, List.eraseIdx_cons_succ, List.set_cons_zero, List.set_cons_succ]; rfl); intro _ _) | (apply TL.x; rfl; rfl; (apply X.storeTo 1 (enc (⟨zs[0], 6, 0, ⟨some ⟨b121, 0, none⟩, 1, 1, [wDatum 0]⟩⟩ : RSet)); rfl; rfl; rfl; rfl; rfl; rfl; rfl; rfl; rfl; rfl); intro _ _) | (apply GS.eff; rfl; decide +kernel; rfl; (apply X.storeTo 1 (enc (⟨zs[0], 6, 0, ⟨some ⟨b121, 0, none⟩, 1, 1, [wDatum 0]⟩⟩ : RSet)); rfl; rfl; rfl; rfl; rfl; rfl; rfl; rfl; rfl; rfl); intro _ _) | (apply TL.x; rfl; rfl; (apply X.storeTo 3 (enc (⟨zs[0], 6, 0, ⟨some ⟨b121, 0, none⟩, 1, 1, [wDatum 0]⟩⟩ : RSet)); rfl; rfl; rfl; rfl; rfl; rfl; rfl; rfl; rfl; rfl); intro _ _) | (apply GS.eff; rfl; decide +kernel; rfl; (apply X.storeTo 3 (enc (⟨zs[0], 6, 0, ⟨some ⟨b121, 0, none⟩, 1, 1, [wDatum 0]⟩⟩ : RSet)); rfl; rfl; rfl; rfl; rfl; rfl; rfl; rfl; rfl; rfl); intro _ _) | (apply TL.val; rfl; rfl; (first | exact vpure | exact vread)) | (apply GT.pure; rfl; rfl; rfl; rfl; (first | exact vpure); decide +kernel) | (apply GT.read; rfl; rfl; rfl; rfl; (first | exact vpure | exact vread); decide +kernel) | (apply GT.done; decide +kernel; apply N.ofQ) | (apply GT.adv; rfl) | (apply TL.x; rfl; rfl; (first | exact xgrow | exact xput); intro _ _) | (apply GS.grow; rfl; rfl; (first | exact xgrow); intro _ _) | (apply GS.eff; rfl; decide +kernel; rfl; (first | exact xput); intro _ _) | (apply TL.guard; rfl; rfl; rfl; (with_reducible (first | exact Is.ndec | exact Is.dec | exact Is.not | ((fail_if_success exact Is.litT); (fail_if_success exact Is.litF); exact Is.base))); intro _; rotate_left; intro _; rotate_right) | (apply GT.guard; rfl; rfl; rfl; rfl; (with_reducible (first | exact Is.ndec | exact Is.dec | exact Is.not | ((fail_if_success exact Is.litT); (fail_if_success exact Is.litF); exact Is.base))); intro _; rotate_left; intro _; rotate_right) | (apply GT.fork1; decide +kernel) | (apply GT.fork2 1; decide +kernel) | (apply GT.fork2 2; decide +kernel) | (apply GT.fork2 3; decide +kernel) | (apply GT.fork2 4; decide +kernel) | (apply GT.fork2 5; decide +kernel) | (apply GT.fork2 6; decide +kernel) | (apply GT.fork2 7; decide +kernel) | (apply GT.fork2 8; decide +kernel) | (apply GT.fork2 9; decide +kernel) | (apply GT.fork2 10; decide +kernel) | (apply GT.fork2 11; decide +kernel) | (apply GT.fork2 12; decide +kernel) | (apply GT.fork2 13; decide +kernel) | (apply GT.fork2 14; decide +kernel) | (apply GT.fork2 15; decide +kernel) | (apply GT.fork2 16; decide +kernel) | (apply GT.fork2 17; decide +kernel) | (apply GT.fork2 18; decide +kernel) | (apply GT.fork2 19; decide +kernel) | (apply GT.fork2 20; decide +kernel) | (apply GT.fork2 21; decide +kernel) | (apply GT.fork2 22; decide +kernel) | (apply GT.fork2 23; decide +kernel)))
      all_goals (try contradiction)
      all_goals (try (exfalso; omega))
      have hl0 : l = [] := List.eq_nil_of_length_eq_zero hwm.len
      have hle35 := hle4.trans hle5
      have hx7 : ((⟨⟨zs[0], 7, 0, ⟨some ⟨b121, 0, none⟩, 1, 1, [wDatum 0]⟩⟩, ⟨some ⟨b141, 0, none⟩, 1, 1, [g7]⟩⟩ : Signed)).c = wK zs a b 0 := by
        unfold wK; rw [hgi, hg7]; rfl
      have hw1 := WM.start _ hx7
      rw [hgi] at hw1
      refine N.round (1, H5, l ++ [((⟨zs[0], 7⟩ : Question), (⟨⟨zs[0], 7, 0, ⟨some ⟨b121, 0, none⟩, 1, 1, [wDatum 0]⟩⟩, ⟨some ⟨b141, 0, none⟩, 1, 1, [g7]⟩⟩ : Signed))], ⟨zs[0], 6, 0, ⟨some ⟨b121, 0, none⟩, 1, 1, [wDatum 0]⟩⟩)
        ⟨by show 1 ≤ _; omega, hle3.trans hle35, by rw [hl0]; exact hw1, fun p hp => ?_, ⟨hzi, show I64 6 by decide, show I64 0 by decide, h121.mono hle5⟩, fun _ => by show wSet zs[0] 6 0 = _; rw [hz.root (by omega)]⟩ (by show k + 1 - 1 < k + 1 - 0; omega) (by (repeat (first | exact True.intro | refine ⟨rfl, ?_⟩ | refine Sub.int rfl (by omega) ?_))) rfl (by exact List.Sublist.cons _ (List.Sublist.cons _ (List.Sublist.cons _ (List.Sublist.refl _))))
      rcases List.mem_append.1 hp with hp | hp
      · exact Enc.mono hle35 (hlg p hp)
      · obtain rfl := List.mem_singleton.1 hp
        exact ⟨⟨hzi, show I64 7 by decide, show I64 0 by decide, h121.mono hle5⟩, h141⟩
    | succ i =>
      have hjz : i < zs.length := by omega
      have hzj : LenOk zs[i] := hzg _ (List.getElem_mem hjz)
      obtain ⟨g6, hg6, hgg6⟩ := wA_sig hz hk5 hwin hizl ha hb
      have hrem2 : ((((i + 1 : Nat) : Int)) - 1).tmod 3 = ((i % 3 : Nat) : Int) := by
        rw [show (((i + 1 : Nat) : Int)) - 1 = (i : Int) by omega]
        first | rfl | (rw [Int.tmod_eq_emod_of_nonneg (by omega)]; omega)
      have hnew6 := hwm.new6 hz hizl
      rw [hgi] at hnew6
      repeat (any_goals (first | (apply T.regionDS (id := 28) [.blk b23 25 (enc (⟨zs[i + 1], 6, 0, ⟨some ⟨b121, 0, none⟩, 1, 1, [wDatum (i + 1)]⟩⟩ : RSet))] wide; rfl; (repeat (first | exact List.Sublist.refl _ | exact List.nil_sublist _ | apply List.Sublist.cons_cons | apply List.Sublist.cons))) | refine T.seq ?_ | refine T.region ?_ | (apply T.regionD wide; rfl) | refine TL.nil ?_ | refine N.next ?_ | refine N.inBlock ?_ | refine N.exit_same ?_ | refine N.exit_then ?_ | refine N.ret_then ?_ | refine N.ret_block ?_ | (apply N.exit_other; rfl) | refine T.ret ?_ | refine T.skip ?_ | refine T.exit ?_ | refine T.block ?_ | (apply T.cond_true; rfl) | (apply T.cond_false; rfl) | (apply T.test; rfl; (with_reducible (first | exact Is.ndec | exact Is.dec | exact Is.not | ((fail_if_success exact Is.litT); (fail_if_success exact Is.litF); exact Is.base))); intro _; rotate_left; intro _; rotate_right) | (apply TL.skip; rfl; rfl; rfl) | (apply TL.skip_none; rfl; rfl) | (apply GT.skip; rfl; rfl; rfl; decide +kernel) | (apply TL.val; rfl; rfl; (apply V.elem (j := i + 1); rfl; rfl; rfl; rfl; rfl; omega; (show i + 1 < k + 1; omega); rfl)) | (apply GT.pure; rfl; rfl; rfl; rfl; (apply V.elem (j := i + 1); rfl; rfl; rfl; rfl; rfl; omega; (show i + 1 < k + 1; omega); rfl); decide +kernel) | (apply GT.read; rfl; rfl; rfl; rfl; (apply V.elem (j := i + 1); rfl; rfl; rfl; rfl; rfl; omega; (show i + 1 < k + 1; omega); rfl); decide +kernel) | (apply TL.val; rfl; rfl; (apply V.load_H; rfl; rfl; rfl; exact hzs3.cell0 (k := i + 1) hil rfl)) | (apply GT.pure; rfl; rfl; rfl; rfl; (apply V.load_H; rfl; rfl; rfl; exact hzs3.cell0 (k := i + 1) hil rfl); decide +kernel) | (apply GT.read; rfl; rfl; rfl; rfl; (apply V.load_H; rfl; rfl; rfl; exact hzs3.cell0 (k := i + 1) hil rfl); decide +kernel) | (apply TL.val; rfl; rfl; (apply V.remG (m := (((i + 1) % 3 : Nat) : Int)); rfl; rfl; exact hrem; exact wrap_i64 (by constructor <;> omega); decide)) | (apply GT.pure; rfl; rfl; rfl; rfl; (apply V.remG (m := (((i + 1) % 3 : Nat) : Int)); rfl; rfl; exact hrem; exact wrap_i64 (by constructor <;> omega); decide); decide +kernel) | (apply GT.read; rfl; rfl; rfl; rfl; (apply V.remG (m := (((i + 1) % 3 : Nat) : Int)); rfl; rfl; exact hrem; exact wrap_i64 (by constructor <;> omega); decide); decide +kernel) | (apply TL.val; rfl; rfl; (apply V.build; rfl; rfl; rfl; rfl; rfl; rfl)) | (apply GT.pure; rfl; rfl; rfl; rfl; (apply V.build; rfl; rfl; rfl; rfl; rfl; rfl); decide +kernel) | (apply GT.read; rfl; rfl; rfl; rfl; (apply V.build; rfl; rfl; rfl; rfl; rfl; rfl); decide +kernel) | (apply TL.x; rfl; rfl; (apply X.storeTo 0 (enc (wKey (i + 1))); rfl; rfl; rfl; rfl; rfl; rfl; rfl; rfl; rfl; rfl); intro _ _) | (apply GS.eff; rfl; decide +kernel; rfl; (apply X.storeTo 0 (enc (wKey (i + 1))); rfl; rfl; rfl; rfl; rfl; rfl; rfl; rfl; rfl; rfl); intro _ _) | (apply TL.x; rfl; rfl; (apply X.buildSlice1 (d := 121); rfl; rfl; rfl; rfl; rfl; rfl; rfl; rfl); intro b121 _; apply TL.frzBlk 0 (α := Datum) (els := [wDatum (i + 1)]) (m := 1) rfl rfl rfl (by decide) (one_good (wDatum_good (by omega) _)); intro H4 h121 hle4; have hR4 := Rules.mono hle4 hR3; have hg7s : Enc.good H4 (⟨zs[i + 1], 7, 0, ⟨some ⟨b121, 0, none⟩, 1, 1, [wDatum (i + 1)]⟩⟩ : RSet) := ⟨hzi, show I64 7 by decide, show I64 0 by decide, h121⟩) | (apply TL.x; rfl; rfl; (apply X.alloc (d := 23); rfl; rfl; rfl); intro b23 _) | (apply TL.x; rfl; rfl; (apply X.storeTo 0 (enc (⟨zs[i + 1], 7, 0, ⟨some ⟨b121, 0, none⟩, 1, 1, [wDatum (i + 1)]⟩⟩ : RSet)); rfl; rfl; rfl; rfl; rfl; rfl; rfl; rfl; rfl; rfl); intro _ _) | (apply GS.eff; rfl; decide +kernel; rfl; (apply X.storeTo 0 (enc (⟨zs[i + 1], 7, 0, ⟨some ⟨b121, 0, none⟩, 1, 1, [wDatum (i + 1)]⟩⟩ : RSet)); rfl; rfl; rfl; rfl; rfl; rfl; rfl; rfl; rfl; rfl); intro _ _) | (apply TL.callE (f := 27) [.agg (enc (⟨zs[i + 1], 7, 0, ⟨some ⟨b121, 0, none⟩, 1, 1, [wDatum (i + 1)]⟩⟩ : RSet)).toArray, strV zs[i + 1], .agg (enc (wKey (i + 1))).toArray, intV a, intV b] Tryd.call27; rfl; rfl; rfl; rfl; (exact fun _ hs => c_SignV (s := ⟨zs[i + 1], 7, 0, ⟨some ⟨b121, 0, none⟩, 1, 1, [wDatum (i + 1)]⟩⟩) hg7 hs.sat hR4 hg7s hzi (wKey_good (by omega) _) ha hb)) | (apply GT.callE (f := 27) [.agg (enc (⟨zs[i + 1], 7, 0, ⟨some ⟨b121, 0, none⟩, 1, 1, [wDatum (i + 1)]⟩⟩ : RSet)).toArray, strV zs[i + 1], .agg (enc (wKey (i + 1))).toArray, intV a, intV b] Tryd.call27; rfl; rfl; rfl; rfl; rfl; rfl; (exact fun _ hs => c_SignV (s := ⟨zs[i + 1], 7, 0, ⟨some ⟨b121, 0, none⟩, 1, 1, [wDatum (i + 1)]⟩⟩) hg7 hs.sat hR4 hg7s hzi (wKey_good (by omega) _) ha hb); decide +kernel) | (apply TL.x; rfl; rfl; (apply X.storeTo 0 (enc g7); rfl; rfl; rfl; rfl; rfl; rfl; rfl; rfl; rfl; rfl); intro _ _) | (apply GS.eff; rfl; decide +kernel; rfl; (apply X.storeTo 0 (enc g7); rfl; rfl; rfl; rfl; rfl; rfl; rfl; rfl; rfl; rfl); intro _ _) | (apply TL.x; rfl; rfl; (apply X.buildSlice1 (d := 141); rfl; rfl; rfl; rfl; rfl; rfl; rfl; rfl); intro b141 _; apply TL.frzBlk 0 (α := Sig) (els := [g7]) (m := 1) rfl rfl rfl (by decide) (one_good (hgg7 _)); intro H5 h141 hle5; have hR5 := Rules.mono (hle4.trans hle5) hR3; have hzs5 := hzs3.mono (hle4.trans hle5); have hg6s : Enc.good H5 (⟨zs[i + 1], 6, 0, ⟨some ⟨b121, 0, none⟩, 1, 1, [wDatum (i + 1)]⟩⟩ : RSet) := ⟨hzi, show I64 6 by decide, show I64 0 by decide, h121.mono hle5⟩) | (apply TL.x; rfl; rfl; (apply X.mputG 4 (⟨zs[i + 1], 7⟩ : Question); rfl; rfl; exact key_q; rfl; rfl; rfl; rfl; (apply mput_to (aPut_newG (f := fSig) (x := ⟨⟨zs[i + 1], 7, 0, ⟨some ⟨b121, 0, none⟩, 1, 1, [wDatum (i + 1)]⟩⟩, ⟨some ⟨b141, 0, none⟩, 1, 1, [g7]⟩⟩) hnew7)); simp only [List.eraseIdx_cons_zero, List.eraseIdx_cons_succ, List.set_cons_zero, List.set_cons_succ]; rfl); intro _ _) | (apply GS.eff; rfl; decide +kernel; rfl; (apply X.mputG 4 (⟨zs[i + 1], 7⟩ : Question); rfl; rfl; exact key_q; rfl; rfl; rfl; rfl; (apply mput_to (aPut_newG (f := fSig) (x := ⟨⟨zs[i + 1], 7, 0, ⟨some ⟨b121, 0, none⟩, 1, 1, [wDatum (i + 1)]⟩⟩, ⟨some ⟨b141, 0, none⟩, 1, 1, [g7]⟩⟩) hnew7)); simp only [List.eraseIdx_cons_zero, List.eraseIdx_cons_succ, List.set_cons_zero, List.set_cons_succ]; rfl); intro _ _) | (apply TL.x; rfl; rfl; (apply X.storeTo 1 (enc (⟨zs[i + 1], 6, 0, ⟨some ⟨b121, 0, none⟩, 1, 1, [wDatum (i + 1)]⟩⟩ : RSet)); rfl; rfl; rfl; rfl; rfl; rfl; rfl; rfl; rfl; rfl); intro _ _) | (apply GS.eff; rfl; decide +kernel; rfl; (apply X.storeTo 1 (enc (⟨zs[i + 1], 6, 0, ⟨some ⟨b121, 0, none⟩, 1, 1, [wDatum (i + 1)]⟩⟩ : RSet)); rfl; rfl; rfl; rfl; rfl; rfl; rfl; rfl; rfl; rfl); intro _ _) | (apply TL.val; rfl; rfl; (apply V.elem (j := i); rfl; rfl; rfl; rfl; rfl; omega; (show i < k + 1; omega); rfl)) | (apply GT.pure; rfl; rfl; rfl; rfl; (apply V.elem (j := i); rfl; rfl; rfl; rfl; rfl; omega; (show i < k + 1; omega); rfl); decide +kernel) | (apply GT.read; rfl; rfl; rfl; rfl; (apply V.elem (j := i); rfl; rfl; rfl; rfl; rfl; omega; (show i < k + 1; omega); rfl); decide +kernel) | (apply TL.val; rfl; rfl; (apply V.load_H; rfl; rfl; rfl; exact hzs5.cell0 (k := i) (show i < k + 1 by omega) rfl)) | (apply GT.pure; rfl; rfl; rfl; rfl; (apply V.load_H; rfl; rfl; rfl; exact hzs5.cell0 (k := i) (show i < k + 1 by omega) rfl); decide +kernel) | (apply GT.read; rfl; rfl; rfl; rfl; (apply V.load_H; rfl; rfl; rfl; exact hzs5.cell0 (k := i) (show i < k + 1 by omega) rfl); decide +kernel) | (apply TL.val; rfl; rfl; (apply V.remG (m := ((i % 3 : Nat) : Int)); rfl; rfl; exact hrem2; exact wrap_i64 (by constructor <;> omega); decide)) | (apply GT.pure; rfl; rfl; rfl; rfl; (apply V.remG (m := ((i % 3 : Nat) : Int)); rfl; rfl; exact hrem2; exact wrap_i64 (by constructor <;> omega); decide); decide +kernel) | (apply GT.read; rfl; rfl; rfl; rfl; (apply V.remG (m := ((i % 3 : Nat) : Int)); rfl; rfl; exact hrem2; exact wrap_i64 (by constructor <;> omega); decide); decide +kernel) | (apply TL.callE (f := 27) [.agg (enc (⟨zs[i + 1], 6, 0, ⟨some ⟨b121, 0, none⟩, 1, 1, [wDatum (i + 1)]⟩⟩ : RSet)).toArray, strV zs[i], .agg (enc (wKey i)).toArray, intV a, intV b] Tryd.call27; rfl; rfl; rfl; rfl; (exact fun _ hs => c_SignV (s := ⟨zs[i + 1], 6, 0, ⟨some ⟨b121, 0, none⟩, 1, 1, [wDatum (i + 1)]⟩⟩) hg6 hs.sat hR5 hg6s hzj (wKey_good (by omega) _) ha hb)) | (apply GT.callE (f := 27) [.agg (enc (⟨zs[i + 1], 6, 0, ⟨some ⟨b121, 0, none⟩, 1, 1, [wDatum (i + 1)]⟩⟩ : RSet)).toArray, strV zs[i], .agg (enc (wKey i)).toArray, intV a, intV b] Tryd.call27; rfl; rfl; rfl; rfl; rfl; rfl; (exact fun _ hs => c_SignV (s := ⟨zs[i + 1], 6, 0, ⟨some ⟨b121, 0, none⟩, 1, 1, [wDatum (i + 1)]⟩⟩) hg6 hs.sat hR5 hg6s hzj (wKey_good (by omega) _) ha hb); decide +kernel) | (apply GS.effS; rfl; rfl; (apply X.storeTo 0 (enc g6); rfl; rfl; rfl; rfl; rfl; rfl; rfl; rfl; rfl; rfl); (intro _; rfl); (intro _; (repeat (first | exact List.Sublist.refl _ | exact List.nil_sublist _ | apply List.Sublist.cons_cons | apply List.Sublist.cons))); intro _ _) | (apply TL.x; rfl; rfl; (apply X.buildSlice1 (d := 172); rfl; rfl; rfl; rfl; rfl; rfl; rfl; rfl); intro b172 _; apply TL.frzBlk 0 (α := Sig) (els := [g6]) (m := 1) rfl rfl rfl (by decide) (one_good (hgg6 _)); intro H6 h172 hle6) | (apply TL.x; rfl; rfl; (apply X.mputG 5 (⟨zs[i + 1], 6⟩ : Question); rfl; rfl; exact key_q; rfl; rfl; rfl; rfl; (apply mput_to (aPut_newG (f := fSig) (x := ⟨⟨zs[i + 1], 6, 0, ⟨some ⟨b121, 0, none⟩, 1, 1, [wDatum (i + 1)]⟩⟩, ⟨some ⟨b172, 0, none⟩, 1, 1, [g6]⟩⟩) (hnew6 _))); simp only [List.eraseIdx_cons_zero, List.eraseIdx_cons_succ, List.set_cons_zero, List.set_cons_succ]; rfl); intro _ _) | (apply GS.eff; rfl; decide +kernel; rfl; (apply X.mputG 5 (⟨zs[i + 1], 6⟩ : Question); rfl; rfl; exact key_q; rfl; rfl; rfl; rfl; (apply mput_to (aPut_newG (f := fSig) (x := ⟨⟨zs[i + 1], 6, 0, ⟨some ⟨b121, 0, none⟩, 1, 1, [wDatum (i + 1)]⟩⟩, ⟨some ⟨b172, 0, none⟩, 1, 1, [g6]⟩⟩) (hnew6 _))); simp only [List.eraseIdx_cons_zero, List.eraseIdx_cons_succ, List.set_cons_zero, List.set_cons_succ]; rfl); intro _ _) | (apply TL.val; rfl; rfl; (first | exact vpure | exact vread)) | (apply GT.pure; rfl; rfl; rfl; rfl; (first | exact vpure); decide +kernel) | (apply GT.read; rfl; rfl; rfl; rfl; (first | exact vpure | exact vread); decide +kernel) | (apply GT.done; decide +kernel; apply N.ofQ) | (apply GT.adv; rfl) | (apply TL.x; rfl; rfl; (first | exact xgrow | exact xput); intro _ _) | (apply GS.grow; rfl; rfl; (first | exact xgrow); intro _ _) | (apply GS.eff; rfl; decide +kernel; rfl; (first | exact xput); intro _ _) | (apply TL.guard; rfl; rfl; rfl; (with_reducible (first | exact Is.ndec | exact Is.dec | exact Is.not | ((fail_if_success exact Is.litT); (fail_if_success exact Is.litF); exact Is.base))); intro _; rotate_left; intro _; rotate_right) | (apply GT.guard; rfl; rfl; rfl; rfl; (with_reducible (first | exact Is.ndec | exact Is.dec | exact Is.not | ((fail_if_success exact Is.litT); (fail_if_success exact Is.litF); exact Is.base))); intro _; rotate_left; intro _; rotate_right) | (apply GT.fork1; decide +kernel) | (apply GT.fork2 1; decide +kernel) | (apply GT.fork2 2; decide +kernel) | (apply GT.fork2 3; decide +kernel) | (apply GT.fork2 4; decide +kernel) | (apply GT.fork2 5; decide +kernel) | (apply GT.fork2 6; decide +kernel) | (apply GT.fork2 7; decide +kernel) | (apply GT.fork2 8; decide +kernel) | (apply GT.fork2 9; decide +kernel) | (apply GT.fork2 10; decide +kernel) | (apply GT.fork2 11; decide +kernel) | (apply GT.fork2 12; decide +kernel) | (apply GT.fork2 13; decide +kernel) | (apply GT.fork2 14; decide +kernel) | (apply GT.fork2 15; decide +kernel) | (apply GT.fork2 16; decide +kernel) | (apply GT.fork2 17; decide +kernel) | (apply GT.fork2 18; decide +kernel) | (apply GT.fork2 19; decide +kernel) | (apply GT.fork2 20; decide +kernel) | (apply GT.fork2 21; decide +kernel) | (apply GT.fork2 22; decide +kernel) | (apply GT.fork2 23; decide +kernel)))
      all_goals (try contradiction)
      all_goals (try (exfalso; omega))
      have hle36 := (hle4.trans hle5).trans hle6
      have hx7 : ((⟨⟨zs[i + 1], 7, 0, ⟨some ⟨b121, 0, none⟩, 1, 1, [wDatum (i + 1)]⟩⟩, ⟨some ⟨b141, 0, none⟩, 1, 1, [g7]⟩⟩ : Signed)).c = wK zs a b (i + 1) := by
        unfold wK; rw [hgi, hg7]; rfl
      have hx6 : ((⟨⟨zs[i + 1], 6, 0, ⟨some ⟨b121, 0, none⟩, 1, 1, [wDatum (i + 1)]⟩⟩, ⟨some ⟨b172, 0, none⟩, 1, 1, [g6]⟩⟩ : Signed)).c = wA zs a b (i + 1) := by
        unfold wA; rw [hgi, show i + 1 - 1 = i from rfl, getD_at hjz, hg6]; rfl
      have hw1 := hwm.step (by omega) hx7 hx6
      rw [hgi] at hw1
      refine N.round (i + 1 + 1, H6, (l ++ [((⟨zs[i + 1], 7⟩ : Question), (⟨⟨zs[i + 1], 7, 0, ⟨some ⟨b121, 0, none⟩, 1, 1, [wDatum (i + 1)]⟩⟩, ⟨some ⟨b141, 0, none⟩, 1, 1, [g7]⟩⟩ : Signed))]) ++ [((⟨zs[i + 1], 6⟩ : Question), (⟨⟨zs[i + 1], 6, 0, ⟨some ⟨b121, 0, none⟩, 1, 1, [wDatum (i + 1)]⟩⟩, ⟨some ⟨b172, 0, none⟩, 1, 1, [g6]⟩⟩ : Signed))], an)
        ⟨by show i + 1 + 1 ≤ _; omega, hle3.trans hle36, hw1, fun p hp => ?_, Enc.mono hle36 hag, fun _ => han (by omega)⟩ (by show k + 1 - (i + 1 + 1) < k + 1 - (i + 1); omega) (by (repeat (first | exact True.intro | refine ⟨rfl, ?_⟩ | refine Sub.int rfl (by omega) ?_))) rfl (by exact List.Sublist.cons _ (List.Sublist.cons _ (List.Sublist.cons _ (List.Sublist.cons _ (List.Sublist.refl _)))))
      rcases List.mem_append.1 hp with hp | hp
      · rcases List.mem_append.1 hp with hp | hp
        · exact Enc.mono hle36 (hlg p hp)
        · obtain rfl := List.mem_singleton.1 hp
          exact ⟨⟨hzi, show I64 7 by decide, show I64 0 by decide, h121.mono (hle5.trans hle6)⟩, h141.mono hle6⟩
      · obtain rfl := List.mem_singleton.1 hp
        exact ⟨⟨hzi, show I64 6 by decide, show I64 0 by decide, h121.mono (hle5.trans hle6)⟩, h172⟩
  have hie : i = zs.length := by omega
  subst hie
  have han := han (by omega)
  have hkz : k < zs.length := by omega
  have hgk := getD_at hkz
  have hzk : LenOk zs[k] := hzg _ (List.getElem_mem hkz)
  have hll2 : (mSig l).length = 2 * zs.length - 1 := by rw [List.length_map]; exact hwm.len
  have hpath : ∀ j, j ≤ 2 * zs.length - 1 → pathC (wKnown zs a b j) an.c zs[k] t d = if j < 2 * zs.length - 1 then ([], wAsk zs j, 4) else ([wKey (zs.length - 1)], qNil, 0) := fun j hj => by
    have h := path_ways hz hk5 hwin hwh h1 h2 (j := j) (by omega) hj
    rw [show zs.length - 1 = k by omega, hgk, ← han] at h
    rw [show zs.length - 1 = k by omega]
    exact h
  repeat (any_goals (first | refine T.seq ?_ | refine T.region ?_ | (apply T.regionD wide; rfl) | refine TL.nil ?_ | refine N.next ?_ | refine N.inBlock ?_ | refine N.exit_same ?_ | refine N.exit_then ?_ | refine N.ret_then ?_ | refine N.ret_block ?_ | (apply N.exit_other; rfl) | refine T.ret ?_ | refine T.skip ?_ | refine T.exit ?_ | refine T.block ?_ | (apply T.cond_true; rfl) | (apply T.cond_false; rfl) | (apply T.test; rfl; (with_reducible (first | exact Is.ndec | exact Is.dec | exact Is.not | ((fail_if_success exact Is.litT); (fail_if_success exact Is.litF); exact Is.base))); intro _; rotate_left; intro _; rotate_right) | (apply TL.skip; rfl; rfl; rfl) | (apply TL.skip_none; rfl; rfl) | (apply GT.skip; rfl; rfl; rfl; decide +kernel) | (apply TL.val; rfl; rfl; (apply V.elem (j := k); rfl; rfl; rfl; rfl; rfl; omega; (show k < k + 1; omega); rfl)) | (apply GT.pure; rfl; rfl; rfl; rfl; (apply V.elem (j := k); rfl; rfl; rfl; rfl; rfl; omega; (show k < k + 1; omega); rfl); decide +kernel) | (apply GT.read; rfl; rfl; rfl; rfl; (apply V.elem (j := k); rfl; rfl; rfl; rfl; rfl; omega; (show k < k + 1; omega); rfl); decide +kernel) | (apply TL.val; rfl; rfl; (apply V.load_H; rfl; rfl; rfl; exact hzs3.cell0 (k := k) (show k < k + 1 by omega) rfl)) | (apply GT.pure; rfl; rfl; rfl; rfl; (apply V.load_H; rfl; rfl; rfl; exact hzs3.cell0 (k := k) (show k < k + 1 by omega) rfl); decide +kernel) | (apply GT.read; rfl; rfl; rfl; rfl; (apply V.load_H; rfl; rfl; rfl; exact hzs3.cell0 (k := k) (show k < k + 1 by omega) rfl); decide +kernel) | (apply TL.val; rfl; rfl; (apply V.mlen; rfl; rfl; rfl; rfl; (exact lmem))) | (apply GT.pure; rfl; rfl; rfl; rfl; (apply V.mlen; rfl; rfl; rfl; rfl; (exact lmem)); decide +kernel) | (apply GT.read; rfl; rfl; rfl; rfl; (apply V.mlen; rfl; rfl; rfl; rfl; (exact lmem)); decide +kernel) | (apply TL.val; rfl; rfl; (first | exact vpure | exact vread)) | (apply GT.pure; rfl; rfl; rfl; rfl; (first | exact vpure); decide +kernel) | (apply GT.read; rfl; rfl; rfl; rfl; (first | exact vpure | exact vread); decide +kernel) | (apply GT.done; decide +kernel; apply N.ofQ) | (apply GT.adv; rfl) | (apply TL.x; rfl; rfl; (first | exact xgrow | exact xput); intro _ _) | (apply GS.grow; rfl; rfl; (first | exact xgrow); intro _ _) | (apply GS.eff; rfl; decide +kernel; rfl; (first | exact xput); intro _ _) | (apply TL.guard; rfl; rfl; rfl; (with_reducible (first | exact Is.ndec | exact Is.dec | exact Is.not | ((fail_if_success exact Is.litT); (fail_if_success exact Is.litF); exact Is.base))); intro _; rotate_left; intro _; rotate_right) | (apply GT.guard; rfl; rfl; rfl; rfl; (with_reducible (first | exact Is.ndec | exact Is.dec | exact Is.not | ((fail_if_success exact Is.litT); (fail_if_success exact Is.litF); exact Is.base))); intro _; rotate_left; intro _; rotate_right) | (apply GT.fork1; decide +kernel) | (apply GT.fork2 1; decide +kernel) | (apply GT.fork2 2; decide +kernel) | (apply GT.fork2 3; decide +kernel) | (apply GT.fork2 4; decide +kernel) | (apply GT.fork2 5; decide +kernel) | (apply GT.fork2 6; decide +kernel) | (apply GT.fork2 7; decide +kernel) | (apply GT.fork2 8; decide +kernel) | (apply GT.fork2 9; decide +kernel) | (apply GT.fork2 10; decide +kernel) | (apply GT.fork2 11; decide +kernel) | (apply GT.fork2 12; decide +kernel) | (apply GT.fork2 13; decide +kernel) | (apply GT.fork2 14; decide +kernel) | (apply GT.fork2 15; decide +kernel) | (apply GT.fork2 16; decide +kernel) | (apply GT.fork2 17; decide +kernel) | (apply GT.fork2 18; decide +kernel) | (apply GT.fork2 19; decide +kernel) | (apply GT.fork2 20; decide +kernel) | (apply GT.fork2 21; decide +kernel) | (apply GT.fork2 22; decide +kernel) | (apply GT.fork2 23; decide +kernel)))
  all_goals (try contradiction)
  all_goals (try (exfalso; omega))
  apply T.nilRow 37 5
  refine T.loop (G := Nat × Hp × Value × List Signed) (fun g => [(0, labels.v), (1, intV a), (2, intV b), (3, intV t), (4, intV d), (11, .bool true), (12, .slice (some ⟨bz, 0, none⟩) (k + 1) cz), (17, .map (some bm)), (18, ptrT ba), (28, g.2.2.1), (29, strV zs[k]), (182, intV (mSig l).length), (183, intV g.1)]) (fun g => g.2.1) (fun g => [.row g.2.2.1 37 5 g.1 (encs g.2.2.2), .blk ba 25 (enc an), .any bm (mObj qV (mSig l))])
    (fun g => g.1 ≤ 2 * zs.length - 1 ∧ H3.le g.2.1 ∧ g.2.2.2.map Signed.c = wKnown zs a b g.1 ∧ (∀ x ∈ g.2.2.2, Enc.good g.2.1 x) ∧ g.2.2.2.length = g.1) (fun g => 2 * zs.length - 1 - g.1) (0, H3, .slice none 0 0, [])
    ⟨Nat.zero_le _, .refl _, rfl, fun x hx => absurd hx List.not_mem_nil, rfl⟩ (by (repeat (first | exact True.intro | refine ⟨rfl, ?_⟩ | refine Sub.int rfl (by omega) ?_))) rfl (List.Sublist.refl _) ?_
  rintro ⟨j, H4, v, els⟩ ⟨hj, hle4, hels, helg, hell⟩
  simp only at hj hle4 hels helg hell ⊢
  have hR4 := Rules.mono hle4 hR3
  have hag4 := Enc.mono hle4 hag
  have hp := hpath j hj
  rw [← hels] at hp
  by_cases hjl : j < 2 * zs.length - 1
  · rw [if_pos hjl] at hp
    obtain ⟨x, hx1, hx2, hx3⟩ := hwm.get hz (f := fSig) hjl
    have hxg : Enc.good H4 x := Enc.mono hle4 (hlg _ hx1)
    have hkn := known_next (a := a) (b := b) hz hjl
    rw [← hels] at hkn
    obtain ⟨q, hq⟩ : ∃ q, wAsk zs j = q := ⟨_, rfl⟩
    rw [hq] at hp hx1 hx2 hkn
    obtain ⟨r, hr⟩ : ∃ r, knownI (els.map Signed.c) q.name q.typ = r := ⟨_, rfl⟩
    rw [hr] at hkn
    repeat (any_goals (first | refine T.seq ?_ | refine T.region ?_ | (apply T.regionD wide; rfl) | refine TL.nil ?_ | refine N.next ?_ | refine N.inBlock ?_ | refine N.exit_same ?_ | refine N.exit_then ?_ | refine N.ret_then ?_ | refine N.ret_block ?_ | (apply N.exit_other; rfl) | refine T.ret ?_ | refine T.skip ?_ | refine T.exit ?_ | refine T.block ?_ | (apply T.cond_true; rfl) | (apply T.cond_false; rfl) | (apply T.test; rfl; (with_reducible (first | exact Is.ndec | exact Is.dec | exact Is.not | ((fail_if_success exact Is.litT); (fail_if_success exact Is.litF); exact Is.base))); intro _; rotate_left; intro _; rotate_right) | (apply TL.skip; rfl; rfl; rfl) | (apply TL.skip_none; rfl; rfl) | (apply GT.skip; rfl; rfl; rfl; decide +kernel) | (apply TL.x; rfl; rfl; (apply X.callFE (f := 16) [v, .agg (enc an).toArray, strV zs[k], intV t, intV d] Tryd.call16; rfl; rfl; rfl; exact (fun _ hs => c_PathOwn hp hs (List.Mem.head _) hell helg hR4 hag4 hzk ht hd)); intro p hp; have helg5 : ∀ y ∈ els, Enc.good p.1 y := (fun y hy => Enc.mono hp.2 (helg y hy))) | (apply TL.x; rfl; rfl; (apply X.storeTo 0 (enc q); rfl; rfl; rfl; rfl; rfl; rfl; rfl; rfl; rfl; rfl); intro _ _) | (apply GS.eff; rfl; decide +kernel; rfl; (apply X.storeTo 0 (enc q); rfl; rfl; rfl; rfl; rfl; rfl; rfl; rfl; rfl; rfl); intro _ _) | (apply TL.val; rfl; rfl; (apply V.mlookupOkG q; rfl; rfl; rfl; exact key_q; rfl; rfl; (exact lmem); exact getD_is hx2; exact isSome_is hx2)) | (apply GT.pure; rfl; rfl; rfl; rfl; (apply V.mlookupOkG q; rfl; rfl; rfl; exact key_q; rfl; rfl; (exact lmem); exact getD_is hx2; exact isSome_is hx2); decide +kernel) | (apply GT.read; rfl; rfl; rfl; rfl; (apply V.mlookupOkG q; rfl; rfl; rfl; exact key_q; rfl; rfl; (exact lmem); exact getD_is hx2; exact isSome_is hx2); decide +kernel) | (apply TL.x; rfl; rfl; (apply X.storeTo 0 (enc x); rfl; rfl; rfl; rfl; rfl; rfl; rfl; rfl; rfl; rfl); intro _ _) | (apply GS.eff; rfl; decide +kernel; rfl; (apply X.storeTo 0 (enc x); rfl; rfl; rfl; rfl; rfl; rfl; rfl; rfl; rfl; rfl); intro _ _) | (apply TL.callE (f := 28) [v, strV q.name, intV q.typ] Tryd.call28; rfl; rfl; rfl; rfl; (exact fun _ hs => c_KnownOwn hr hs (by exact List.Mem.tail _ (List.Mem.tail _ (List.Mem.head _))) hell helg5)) | (apply GT.callE (f := 28) [v, strV q.name, intV q.typ] Tryd.call28; rfl; rfl; rfl; rfl; rfl; rfl; (exact fun _ hs => c_KnownOwn hr hs (by exact List.Mem.tail _ (List.Mem.tail _ (List.Mem.head _))) hell helg5); decide +kernel) | (apply TL.x; rfl; rfl; (apply X.buildSlice1 (cs := enc x); rfl; rfl; rfl; rfl; rfl; rfl; rfl; rfl); intro b218 _) | (apply TL.x; rfl; rfl; (apply X.append1 3; rfl; rfl; rfl; rfl; rfl; rfl; rfl; rfl; rfl; exact List.Mem.head _; rfl; rfl; rfl; (refine Nat.le_trans (Nat.mul_le_mul_left _ (show _ ≤ 1000 by decide)) ?_; show (j + 1) * 1000 ≤ _; omega); (show j + 1 ≤ _; omega)); intro p2 _) | (apply TL.val; rfl; rfl; (first | exact vpure | exact vread)) | (apply GT.pure; rfl; rfl; rfl; rfl; (first | exact vpure); decide +kernel) | (apply GT.read; rfl; rfl; rfl; rfl; (first | exact vpure | exact vread); decide +kernel) | (apply GT.done; decide +kernel; apply N.ofQ) | (apply GT.adv; rfl) | (apply TL.x; rfl; rfl; (first | exact xgrow | exact xput); intro _ _) | (apply GS.grow; rfl; rfl; (first | exact xgrow); intro _ _) | (apply GS.eff; rfl; decide +kernel; rfl; (first | exact xput); intro _ _) | (apply TL.guard; rfl; rfl; rfl; (with_reducible (first | exact Is.ndec | exact Is.dec | exact Is.not | ((fail_if_success exact Is.litT); (fail_if_success exact Is.litF); exact Is.base))); intro _; rotate_left; intro _; rotate_right) | (apply GT.guard; rfl; rfl; rfl; rfl; (with_reducible (first | exact Is.ndec | exact Is.dec | exact Is.not | ((fail_if_success exact Is.litT); (fail_if_success exact Is.litF); exact Is.base))); intro _; rotate_left; intro _; rotate_right) | (apply GT.fork1; decide +kernel) | (apply GT.fork2 1; decide +kernel) | (apply GT.fork2 2; decide +kernel) | (apply GT.fork2 3; decide +kernel) | (apply GT.fork2 4; decide +kernel) | (apply GT.fork2 5; decide +kernel) | (apply GT.fork2 6; decide +kernel) | (apply GT.fork2 7; decide +kernel) | (apply GT.fork2 8; decide +kernel) | (apply GT.fork2 9; decide +kernel) | (apply GT.fork2 10; decide +kernel) | (apply GT.fork2 11; decide +kernel) | (apply GT.fork2 12; decide +kernel) | (apply GT.fork2 13; decide +kernel) | (apply GT.fork2 14; decide +kernel) | (apply GT.fork2 15; decide +kernel) | (apply GT.fork2 16; decide +kernel) | (apply GT.fork2 17; decide +kernel) | (apply GT.fork2 18; decide +kernel) | (apply GT.fork2 19; decide +kernel) | (apply GT.fork2 20; decide +kernel) | (apply GT.fork2 21; decide +kernel) | (apply GT.fork2 22; decide +kernel) | (apply GT.fork2 23; decide +kernel)))
    all_goals (try contradiction)
    all_goals (try (exfalso; omega))
    refine N.round (j + 1, p.1, _, els ++ [x]) ⟨by show j + 1 ≤ _; omega, hle4.trans hp.2, by rw [List.map_append, hels, wKnown_snoc, ← hx3]; rfl, fun y hy => ?_, by rw [List.length_append, hell]; rfl⟩ (by show 2 * zs.length - 1 - (j + 1) < 2 * zs.length - 1 - j; omega) (by (repeat (first | exact True.intro | refine ⟨rfl, ?_⟩ | refine Sub.int rfl (by omega) ?_))) rfl ?_
    · rcases List.mem_append.1 hy with hy | hy
      · exact helg5 y hy
      · obtain rfl := List.mem_singleton.1 hy
        exact Enc.mono hp.2 hxg
    · simp only [encs_snoc]
      exact List.Sublist.cons _ (List.Sublist.cons _ (List.Sublist.cons _ (List.Sublist.refl _)))
  · rw [if_neg hjl] at hp
    have hjl2 : ¬ ((j : Nat) : Int) < ((mSig l).length : Nat) := by omega
    apply T.frzRowE 0 els; rfl; rfl; rfl; exact hell; exact helg
    intro H5 ks e1 e2 hks hle5
    subst e1
    rw [← e2] at hp
    have hR5 := Rules.mono hle5 hR4
    have hag5 := Enc.mono hle5 hag4
    have hkk : (wKey (zs.length - 1)) = wKey k := by rw [show zs.length - 1 = k by omega]
    have hrem : (((k + 1 : Nat) : Int) - 1).tmod 3 = ((k % 3 : Nat) : Int) := by
      rw [show (((k + 1 : Nat) : Int)) - 1 = (k : Int) by omega]
      first | rfl | (rw [Int.tmod_eq_emod_of_nonneg (by omega)]; omega)
    repeat (any_goals (first | refine T.seq ?_ | refine T.region ?_ | (apply T.regionD wide; rfl) | refine TL.nil ?_ | refine N.next ?_ | refine N.inBlock ?_ | refine N.exit_same ?_ | refine N.exit_then ?_ | refine N.ret_then ?_ | refine N.ret_block ?_ | (apply N.exit_other; rfl) | refine T.ret ?_ | refine T.skip ?_ | refine T.exit ?_ | refine T.block ?_ | (apply T.cond_true; rfl) | (apply T.cond_false; rfl) | (apply T.test; rfl; (with_reducible (first | exact Is.ndec | exact Is.dec | exact Is.not | ((fail_if_success exact Is.litT); (fail_if_success exact Is.litF); exact Is.base))); intro _; rotate_left; intro _; rotate_right) | (apply TL.skip; rfl; rfl; rfl) | (apply TL.skip_none; rfl; rfl) | (apply GT.skip; rfl; rfl; rfl; decide +kernel) | (apply TL.x; rfl; rfl; (apply X.callFE (f := 16) [ks.v, .agg (enc an).toArray, strV zs[k], intV t, intV d] Tryd.call16; rfl; rfl; rfl; exact (fun _ hs => c_Path ks an zs[k] t d _ _ hs.sat hR5 hks hag5 hzk ht hd)); intro r hr; have hpe := hp.symm.trans hr.1.1; injection hpe with hpe1 hpe2; injection hpe2 with hpe2 hpe3; have hk1 := hr.1.2.1; have hks2 : r.2.1.els = [wKey k] := hpe1.symm.trans (by rw [hkk]); have hr3 : r.2.2.2 = 0 := hpe3.symm) | (apply TL.val; rfl; rfl; (apply V.build; rfl; rfl; rfl; rfl; rfl; rfl)) | (apply GT.pure; rfl; rfl; rfl; rfl; (apply V.build; rfl; rfl; rfl; rfl; rfl; rfl); decide +kernel) | (apply GT.read; rfl; rfl; rfl; rfl; (apply V.build; rfl; rfl; rfl; rfl; rfl; rfl); decide +kernel) | (apply TL.val; rfl; rfl; (apply V.remG (m := ((k % 3 : Nat) : Int)); rfl; rfl; exact hrem; exact wrap_i64 (by constructor <;> omega); decide)) | (apply GT.pure; rfl; rfl; rfl; rfl; (apply V.remG (m := ((k % 3 : Nat) : Int)); rfl; rfl; exact hrem; exact wrap_i64 (by constructor <;> omega); decide); decide +kernel) | (apply GT.read; rfl; rfl; rfl; rfl; (apply V.remG (m := ((k % 3 : Nat) : Int)); rfl; rfl; exact hrem; exact wrap_i64 (by constructor <;> omega); decide); decide +kernel) | (apply TL.x; rfl; rfl; (apply X.storeTo 0 (enc r.2.2.1); rfl; rfl; rfl; rfl; rfl; rfl; rfl; rfl; rfl; rfl); intro _ _) | (apply GS.eff; rfl; decide +kernel; rfl; (apply X.storeTo 0 (enc r.2.2.1); rfl; rfl; rfl; rfl; rfl; rfl; rfl; rfl; rfl; rfl); intro _ _) | (apply TL.x; rfl; rfl; (apply X.buildSlice1 (d := 246); rfl; rfl; rfl; rfl; rfl; rfl; rfl; rfl); intro b246 _; apply TL.frzBlk 0 (α := KeyC) (els := [wKey k]) (m := 1) rfl rfl rfl (by decide) (one_good (wKey_good (by omega) _)); intro H6 h246 hle6; have hk6 := hk1.mono hle6) | (apply TL.callE (f := 18) [r.2.1.v, (⟨some ⟨b246, 0, none⟩, 1, 1, [wKey k]⟩ : Slc KeyC).v] Tryd.call18; rfl; rfl; rfl; rfl; (exact fun _ hs => c_Same10V (b := ⟨some ⟨b246, 0, none⟩, 1, 1, [wKey k]⟩) (v := true) (decide_eq_true hks2) hs.sat hk6 h246)) | (apply GT.callE (f := 18) [r.2.1.v, (⟨some ⟨b246, 0, none⟩, 1, 1, [wKey k]⟩ : Slc KeyC).v] Tryd.call18; rfl; rfl; rfl; rfl; rfl; rfl; (exact fun _ hs => c_Same10V (b := ⟨some ⟨b246, 0, none⟩, 1, 1, [wKey k]⟩) (v := true) (decide_eq_true hks2) hs.sat hk6 h246); decide +kernel) | (apply TL.val; rfl; rfl; (first | exact vpure | exact vread)) | (apply GT.pure; rfl; rfl; rfl; rfl; (first | exact vpure); decide +kernel) | (apply GT.read; rfl; rfl; rfl; rfl; (first | exact vpure | exact vread); decide +kernel) | (apply GT.done; decide +kernel; apply N.ofQ) | (apply GT.adv; rfl) | (apply TL.x; rfl; rfl; (first | exact xgrow | exact xput); intro _ _) | (apply GS.grow; rfl; rfl; (first | exact xgrow); intro _ _) | (apply GS.eff; rfl; decide +kernel; rfl; (first | exact xput); intro _ _) | (apply TL.guard; rfl; rfl; rfl; (with_reducible (first | exact Is.ndec | exact Is.dec | exact Is.not | ((fail_if_success exact Is.litT); (fail_if_success exact Is.litF); exact Is.base))); intro _; rotate_left; intro _; rotate_right) | (apply GT.guard; rfl; rfl; rfl; rfl; (with_reducible (first | exact Is.ndec | exact Is.dec | exact Is.not | ((fail_if_success exact Is.litT); (fail_if_success exact Is.litF); exact Is.base))); intro _; rotate_left; intro _; rotate_right) | (apply GT.fork1; decide +kernel) | (apply GT.fork2 1; decide +kernel) | (apply GT.fork2 2; decide +kernel) | (apply GT.fork2 3; decide +kernel) | (apply GT.fork2 4; decide +kernel) | (apply GT.fork2 5; decide +kernel) | (apply GT.fork2 6; decide +kernel) | (apply GT.fork2 7; decide +kernel) | (apply GT.fork2 8; decide +kernel) | (apply GT.fork2 9; decide +kernel) | (apply GT.fork2 10; decide +kernel) | (apply GT.fork2 11; decide +kernel) | (apply GT.fork2 12; decide +kernel) | (apply GT.fork2 13; decide +kernel) | (apply GT.fork2 14; decide +kernel) | (apply GT.fork2 15; decide +kernel) | (apply GT.fork2 16; decide +kernel) | (apply GT.fork2 17; decide +kernel) | (apply GT.fork2 18; decide +kernel) | (apply GT.fork2 19; decide +kernel) | (apply GT.fork2 20; decide +kernel) | (apply GT.fork2 21; decide +kernel) | (apply GT.fork2 22; decide +kernel) | (apply GT.fork2 23; decide +kernel)))
    all_goals (try contradiction)
    all_goals (try (exfalso; omega))
    all_goals exact N.ret_bool rfl (by (exact rvx)) rfl
end Go.Proofs.YtfbhcemlnojejaaDoor
