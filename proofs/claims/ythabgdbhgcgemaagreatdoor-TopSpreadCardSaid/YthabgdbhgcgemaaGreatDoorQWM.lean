import Derived.Test.YthabgdbhgcgemaaGreatDoorQZN
import Derived.Test.YthabgdbhgcgemaaGreatDoorQZP
import Derived.Test.YthabgdbhgcgemaaGreatDoorQBE
import Derived.Test.YthabgdbhgcgemaaGreatDoorQEngC
import Derived.Test.YthabgdbhgcgemaaGreatDoorQZL
import Derived.Test.YthabgdbhgcgemaaGreatDoorQZV
import Derived.Test.YthabgdbhgcgemaaGreatDoorQDataH
namespace Go.Proofs.YthabgdbhgcgemaaGreatDoor
set_option linter.unusedVariables false
set_option linter.unusedSimpArgs false
open Go Go.RowKit
open Enc (enc)
set_option maxRecDepth 20000
section
variable {l : LayV} {H : Hp} {w : World}
theorem c_aliasesL (h3 : ThreeZ l.zone.c) (hs : Sat H w) (hl : Enc.good H l) : Calls Tryz.prog 76 #[.agg (enc l).toArray] w (Ret w (.bool true)) := c_aliasesHold (z := l.zone) (s := l.beh) h3 hs hl.1
theorem c_cutsL (hO : OneZ l.zone.c) (he : l.beh.els = behT (behRZ l.zone.c)) (h4 : FourZ l.zone.c (behRZ l.zone.c)) (hs : Sat H w) (hl : Enc.good H l) : Calls Tryz.prog 77 #[.agg (enc l).toArray] w (Ret w (.bool true)) := c_cutsHold (z := l.zone) (s := l.beh) hO he h4 hs hl.1 hl.2
theorem c_sigsL (hO : OneZ l.zone.c) (he : l.beh.els = behT (behRZ l.zone.c)) (h5 : FiveZ l.zone.c (behRZ l.zone.c)) (hs : Sat H w) (hl : Enc.good H l) : Calls Tryz.prog 78 #[.agg (enc l).toArray] w (Ret w (.bool true)) := c_sigsHold (z := l.zone) (s := l.beh) hO he h5 hs hl.1 hl.2
theorem c_formL (h5 : FiveZ l.zone.c (behRZ l.zone.c)) (hs : Sat H w) (hl : Enc.good H l) : Calls Tryz.prog 79 #[.agg (enc l).toArray] w (Ret w (.bool true)) := c_formHolds (z := l.zone) (s := l.beh) h5 hs hl.1
end
set_option maxHeartbeats 4000000 in
theorem c_zoneValid (z : ZoneV) (h : ZonedR z.c) {H : Hp} {w : World} (hs : Sat H w) (hR : Rules H) (hz : Enc.good H z) : Calls Tryz.prog 33 #[.agg (enc z).toArray] w (Ret w (.bool true)) := by
  refine T.enter (vs := [.agg (enc z).toArray]) (H := H) Tryz.func33 rfl rfl rfl hs ?_
  repeat (any_goals (first | refine T.seq ?_ | refine T.region ?_ | refine TL.nil ?_ | refine N.next ?_ | refine T.ret ?_ | refine T.skip ?_ | (apply T.cond_false; rfl) | (apply TL.x; rfl; rfl; (apply X.box (d := 1); rfl; rfl; rfl); intro b1 _) | (apply TL.x; rfl; rfl; (apply X.alloc (d := 3); rfl; rfl; rfl); intro b3 _) | (apply TL.x; rfl; rfl; (apply X.alloc (d := 4); rfl; rfl; rfl); intro b4 _) | (apply TL.val; rfl; rfl; (apply V.build; (iterate 6 rfl))) | (apply TL.x; rfl; rfl; (apply X.storeTo 0 (enc z); (iterate 10 rfl)); intro _ _) | (apply TL.callE (f := 73) [.agg (enc z).toArray] Tryz.call73; (iterate 4 rfl); (exact fun _ hs => c_ordered z h.one hs.sat hR hz)) | (apply TL.callE (f := 74) [.agg (enc z).toArray] Tryz.call74; (iterate 4 rfl); (exact fun _ hs => c_apexHolds z h.one h.two hs.sat hz)) | (apply TL.x; rfl; rfl; (apply X.callFE (f := 75) [.agg (enc z).toArray] Tryz.call75; rfl; rfl; rfl; exact (fun _ hs => c_lay z h.one hs.sat hz)); intro p hp) | (apply TL.x; rfl; rfl; (apply X.storeTo 0 (enc p.2); (iterate 10 rfl)); intro _ _) | (apply TL.callE (f := 76) [.agg (enc p.2).toArray] Tryz.call76; (iterate 4 rfl); (exact fun _ hs => c_aliasesL (by rw [hp.1.1.1]; exact h.three) hs.sat hp.1.2)) | (apply TL.callE (f := 77) [.agg (enc p.2).toArray] Tryz.call77; (iterate 4 rfl); (exact fun _ hs => c_cutsL (by rw [hp.1.1.1]; exact h.one) (by rw [hp.1.1.1]; exact hp.1.1.2) (by rw [hp.1.1.1]; exact h.four) hs.sat hp.1.2)) | (apply TL.callE (f := 78) [.agg (enc p.2).toArray] Tryz.call78; (iterate 4 rfl); (exact fun _ hs => c_sigsL (by rw [hp.1.1.1]; exact h.one) (by rw [hp.1.1.1]; exact hp.1.1.2) (by rw [hp.1.1.1]; exact h.five) hs.sat hp.1.2)) | (apply TL.callE (f := 79) [.agg (enc p.2).toArray] Tryz.call79; (iterate 4 rfl); (exact fun _ hs => c_formL (by rw [hp.1.1.1]; exact h.five) hs.sat hp.1.2)) | (apply TL.val; rfl; rfl; (first | exact vpure | exact vread))))
  all_goals (try contradiction)
  all_goals exact N.ret_bool rfl (by (exact rvx)) rfl
end Go.Proofs.YthabgdbhgcgemaaGreatDoor
namespace Go.Proofs.YthabgdbhgcgemaaGreatDoor
set_option linter.unusedVariables false
set_option linter.unusedSimpArgs false
open Go Go.RowKit
open Enc (enc)
set_option maxRecDepth 20000
theorem idxI_yes {α : Type} {p : α → Bool} {l : List α} (h : l.any p = true) : ∃ r, ∃ hr : r < l.length, idxI p l = (r : Int) ∧ p l[r] = true := by
  obtain ⟨x, hx, hp⟩ := List.any_eq_true.1 h
  have hlt : l.findIdx p < l.length := List.findIdx_lt_length_of_exists ⟨x, hx, hp⟩
  exact ⟨l.findIdx p, hlt, by unfold idxI; rw [if_pos h], List.findIdx_getElem⟩
structure StartAt (z : ZoneV) (H : Hp) (r : Nat) (x : Signed) (d : Datum) : Prop where
  lt : r < z.sets.len
  at_ : z.sets.A = some ⟨z.sets.b, z.sets.o, none⟩
  cell : H.cell z.sets.b (z.sets.o + r * 5 + 3) = some (.slice x.set.data.A x.set.data.len x.set.data.cap)
  dlen : x.set.data.len = 1
  dat : x.set.data.A = some ⟨x.set.data.b, x.set.data.o, none⟩
  dcell : H.cell x.set.data.b (x.set.data.o + 0 * 3 + 1) = some (intV d.n)
  serial : serialC z.c = d.n
theorem start_of {z : ZoneV} (h : ZonedR z.c) {H : Hp} (hz : Enc.good H z) {r : Nat} (hr : r < z.sets.els.length) (hn : z.sets.els[r].set.name = z.apex) (ht : z.sets.els[r].set.typ = 4) : ∃ x d, StartAt z H r x d := by
  have hg := hz.2
  have hlen := hg.len
  obtain ⟨x, hx⟩ : ∃ x, z.sets.els[r]'hr = x := ⟨_, rfl⟩
  have hm : x.c ∈ z.c.sets := List.mem_map.2 ⟨x, hx ▸ List.getElem_mem hr, rfl⟩
  rw [hx] at hn ht
  obtain ⟨d, hd, _, _⟩ := start_data (h.one.setAt hm) ht
  have hd : x.set.data.els = [d] := hd
  have hxg : Enc.good H x := hx ▸ hg.els _ (List.getElem_mem hr)
  have hdg : x.set.data.Good H := hxg.1.2.2.2
  have hdl : x.set.data.len = 1 := by have := hdg.len; rw [hd] at this; exact this.symm
  refine ⟨x, d, by omega, hg.at_ (by omega), ?_, hdl, hdg.at_ (by omega), ?_, serial_at h.one hm hn ht hd⟩
  · exact hg.cell (k := r) (j := 3) (by omega) (by show some (Value.slice (z.sets.els[r]'hr).set.data.A (z.sets.els[r]'hr).set.data.len (z.sets.els[r]'hr).set.data.cap) = _; rw [hx])
  · exact hdg.cell (k := 0) (j := 1) (by omega) (by
      have : x.set.data.els[0]'(by rw [hd]; exact Nat.one_pos) = d := by simp [hd]
      show (enc (x.set.data.els[0]'(by rw [hd]; exact Nat.one_pos)))[1]? = _
      rw [this]; rfl)
set_option maxHeartbeats 1000000 in
theorem c_zoneSerial (z : ZoneV) (h : ZonedR z.c) {n : Int} (hser : serialC z.c = n) {H : Hp} {w : World} (hs : Sat H w) (hR : Rules H) (hz : Enc.good H z) : Calls Tryz.prog 26 #[.agg (enc z).toArray] w (Ret w (.tuple #[intV n, intV 0])) := by
  obtain ⟨r, hr⟩ := h.one.found h.two.start
  have hrl := hr.lt
  have hname : (z.sets.els[r]'hrl).set.name = z.apex ∧ (z.sets.els[r]'hrl).set.typ = 4 := by
    have he := hr.eq
    have h1 : nameOK (z.sets.els[r]'hrl).set.name = true := h.one.names _ (List.getElem_mem hrl)
    have := cmpQQ_zero (p := ⟨(z.sets.els[r]'hrl).set.name, (z.sets.els[r]'hrl).set.typ⟩) (q := ⟨z.apex, 4⟩) h1 h.one.apexOK he
    exact ⟨congrArg Question.name this, congrArg Question.typ this⟩
  obtain ⟨x, d, st⟩ := start_of h hz hr.lt hname.1 hname.2
  obtain ⟨s1, s2, s3, s4, s5, s6, s7⟩ := st
  have hn : d.n = n := s7.symm.trans hser
  rw [hn] at s6
  have hlim := hz.2.lim
  have hfew : z.sets.len ≤ 20000 := by have := h.one.few; rw [setsC_len] at this; have := hz.2.len; omega
  refine T.enter (vs := [.agg (enc z).toArray]) (H := H) Tryz.func26 rfl rfl rfl hs ?_
  repeat (any_goals (first | refine T.seq ?_ | refine T.region ?_ | refine TL.nil ?_ | refine N.next ?_ | refine T.ret ?_ | refine T.skip ?_ | (apply T.cond_false; rfl) | (apply TL.x; rfl; rfl; (apply X.box (d := 1); rfl; rfl; rfl); intro b1 _) | (apply TL.callE (f := 33) [.agg (enc z).toArray] Tryz.call33; (iterate 4 rfl); (exact fun _ hs => c_zoneValid z h hs.sat hR hz)) | (apply TL.val; rfl; rfl; (apply V.build; (iterate 6 rfl))) | (apply TL.callE (f := 56) [.agg (enc z).toArray, .agg (enc (⟨z.apex, 4⟩ : Question)).toArray] Tryz.call56; (iterate 4 rfl); (exact fun _ hs => c_findZ z ⟨z.apex, 4⟩ r h.one.names h.one.apexOK hs.sat hz hr hfew)) | (apply TL.val; rfl; rfl; (apply V.elem (j := r); (iterate 6 rfl); omega; exact s2)) | (apply TL.val; rfl; rfl; (apply V.load_H; rfl; rfl; rfl; first | exact s3 | exact s6)) | (apply TL.val; rfl; rfl; (apply V.elem (j := 0); (iterate 6 rfl); (rw [s4]; decide); exact s5)) | (apply TL.val; rfl; rfl; (first | exact vpure | exact vread))))
  all_goals (try contradiction)
  all_goals exact N.ret_two rfl (by (exact rvx)) (by (exact rvx)) rfl
theorem c_SerialOf (z : ZoneV) (h : ZonedR z.c) {n : Int} (hser : serialC z.c = n) {H : Hp} {w : World} (hs : Sat H w) (hz : Enc.good H z) : Calls Tryz.prog 15 #[.agg (enc z).toArray] w (Ret w (intV n)) := by
  obtain ⟨y, hy, hyn, hyt⟩ := h.two.start
  obtain ⟨y0, hy0, rfl⟩ := List.mem_map.1 hy
  obtain ⟨r, hr, hri⟩ : ∃ r, ∃ hr : r < z.sets.els.length, idxI (isAt ⟨z.apex, 4⟩) z.sets.els = (r : Int) ∧ isAt ⟨z.apex, 4⟩ z.sets.els[r] = true := by
    have h2 : z.sets.els.any (isAt ⟨z.apex, 4⟩) = true := List.any_eq_true.2 ⟨y0, hy0, by unfold isAt; rw [Bool.and_eq_true]; exact ⟨decide_eq_true hyn, decide_eq_true hyt⟩⟩
    exact idxI_yes h2
  obtain ⟨hi, hp⟩ := hri
  unfold isAt at hp
  rw [Bool.and_eq_true] at hp
  obtain ⟨x, d, st⟩ := start_of h hz hr (of_decide_eq_true hp.1) (of_decide_eq_true hp.2)
  obtain ⟨s1, s2, s3, s4, s5, s6, s7⟩ := st
  have hn : d.n = n := s7.symm.trans hser
  rw [hn] at s6
  refine T.enter (vs := [.agg (enc z).toArray]) (H := H) Tryz.func15 rfl rfl rfl hs ?_
  repeat (any_goals (first | refine T.seq ?_ | refine T.region ?_ | (apply T.regionD wide; rfl) | refine TL.nil ?_ | refine N.next ?_ | refine T.ret ?_ | (apply TL.x; rfl; rfl; (apply X.box (d := 1); rfl; rfl; rfl); intro b1 _) | (apply GT.pure; (iterate 4 rfl); (apply V.build; (iterate 6 rfl)); decide +kernel) | (apply GT.callE (f := 32) [.agg (enc z).toArray, .agg (enc (⟨z.apex, 4⟩ : Question)).toArray] Tryz.call32; (iterate 6 rfl); (exact fun _ hs => c_At06V z ⟨z.apex, 4⟩ hi hs.sat hz); decide +kernel) | (apply GT.pure; (iterate 4 rfl); (apply V.elem (j := r); (iterate 6 rfl); omega; exact s2); decide +kernel) | (apply GT.read; (iterate 4 rfl); (apply V.load_H; rfl; rfl; rfl; first | exact s3 | exact s6); decide +kernel) | (apply GT.pure; (iterate 4 rfl); (apply V.elem (j := 0); (iterate 6 rfl); (rw [s4]; decide); exact s5); decide +kernel) | (apply TL.val; rfl; rfl; (first | exact vpure | exact vread)) | (apply GT.pure; (iterate 4 rfl); (first | exact vpure); decide +kernel) | (apply GT.read; (iterate 4 rfl); (first | exact vpure | exact vread); decide +kernel) | (apply GT.done; decide +kernel; apply N.ofQ)))
  all_goals (try contradiction)
  all_goals exact N.ret_int rfl (by (exact rvx)) rfl
end Go.Proofs.YthabgdbhgcgemaaGreatDoor
namespace Go.Proofs.YthabgdbhgcgemaaGreatDoor
set_option linter.unusedVariables false
set_option linter.unusedSimpArgs false
open Go Go.RowKit
set_option maxRecDepth 20000
section
variable {P : Program} {n : FK} {w0 : World} {H0 HS H : Hp} {K : KZ} {env : List (Nat × Value)} {LS L : List Loc} {ops : List Oper} {ok : Bool} {fuel k : Nat} {ex : List Nat}
theorem GT.forkN (rs : List Nat) (hr : readyB ops k ex rs = true) (hne : rs.isEmpty = false) (h : AllS (GS P n w0 H0 ops K HS LS ok fuel k ex env H L) rs) : GT P n w0 H0 ops K HS LS ok (fuel + 1) k ex env H L :=
  GT.fork rs (by simpa [readyB] using hr) hne h
end
end Go.Proofs.YthabgdbhgcgemaaGreatDoor
namespace Go.Proofs.YthabgdbhgcgemaaGreatDoor
set_option linter.unusedVariables false
set_option linter.unusedSimpArgs false
open Go Go.RowKit
open Enc (enc)
set_option maxRecDepth 20000
section
variable {P : Program} {n : FK} {w0 w w' : World} {H0 H : Hp} {Q : Exit → Act → World → Prop} {env : List (Nat × Value)} {L L' : List Loc}
theorem T.frzZ {c : Code} (i : Nat) {b : Nat} {e : TypeId} {cs : List Value} (hi : L[i]? = some (.blk b e cs)) (h : ∀ (H' : Hp), H'.cells b 0 cs → H.le H' → T P n w0 H0 c Q env H' (L.eraseIdx i)) : T P n w0 H0 c Q env H L := by
  refine T.perm _ (perm_of hi) ⟨fun a w hf hs => ?_⟩
  obtain ⟨H', e3, e4, e5⟩ := hs.frzZ
  exact (h H' e3 e4).out a w hf e5
theorem N.perm {e : Exit} (hp : L.Perm L') (h : N n w0 H0 Q e env H L') : N n w0 H0 Q e env H L := ⟨fun a w hf hs => h.out a w hf (hs.perm hp)⟩
end
structure DeltaOK (a b : ZoneC) (d : DeltaV) : Prop where
  apex : d.apex = a.apex
  frm : d.frm = serialC a
  to : d.to = serialC b
  drop : d.drop.els = dropD a.sets b.sets
  put : d.put.els.map Signed.c = putD a.sets b.sets
theorem zoned_small {z : ZoneV} (h : ZonedR z.c) {H : Hp} (hz : Enc.good H z) {s : Signed} (hs : s ∈ z.sets.els) : s.set.data.len ≤ 1000 ∧ s.sigs.len ≤ 1000 := by
  have hm : s.c ∈ z.c.sets := List.mem_map.2 ⟨s, hs, rfl⟩
  obtain ⟨i, hi, he⟩ := List.mem_iff_getElem.1 hm
  have h1 := (setOK_all (h.one.setAt hm)).2.2.1.2
  have h2 := (h.five i hi).1
  rw [he] at h2
  have hg := hz.2.els s hs
  have h3 := hg.1.2.2.2.len
  have h4 := hg.2.len
  have h1 : s.set.data.els.length ≤ 8 := h1
  have h5 : s.sigs.els.length ≤ 6 := by
    unfold sigsForm at h2
    simp only [Bool.and_eq_true, decide_eq_true_eq] at h2
    exact h2.1.1
  omega
theorem zoned_uniq {z : ZoneV} (h : OneZ z.c) : (z.sets.els.map placeV).Nodup := by
  have := h.uniq
  unfold uniqP ZoneV.c at this
  rw [List.map_map] at this
  exact this
theorem drop_eq (la lb : List Signed) : (la.filter fun x => !(gFindS (placeV x) (plPairs lb)).isSome).map placeV = dropD (la.map Signed.c) (lb.map Signed.c) := by
  unfold dropD
  rw [List.map_map, List.map_map, List.filter_map]
  congr 1
  refine List.filter_congr fun x _ => ?_
  rw [gFindS_isSome, plPairs_keys]
  show (!decide (placeV x ∈ lb.map placeV)) = decide (¬ (placeV x ∈ lb.map placeV))
  by_cases h : placeV x ∈ lb.map placeV
  · simp [h]
  · simp [h]
def putTk (la : List Signed) (x : Signed) : Bool := tkO x (gFindS (placeV x) (plPairs la))
theorem put_eq {la : List Signed} (hu : (la.map placeV).Nodup) (lb : List Signed) : (lb.filter (putTk la)).map Signed.c = putD (la.map Signed.c) (lb.map Signed.c) := by
  unfold putD
  rw [List.filter_map]
  congr 1
  refine List.filter_congr fun x _ => ?_
  simp only [Function.comp]
  unfold putTk
  have hup : uniqP (la.map Signed.c) := by unfold uniqP; rw [List.map_map]; exact hu
  cases h : gFindS (placeV x) (plPairs la) with
  | none =>
    have hno : ¬ (x.c ∈ la.map Signed.c) := fun hm => by
      obtain ⟨y, hy, e⟩ := List.mem_map.1 hm
      exact gFindS_none h (placeV y, y) (List.mem_map.2 ⟨y, hy, rfl⟩) (by rw [← placeV_c, ← placeV_c, e])
    exact (decide_eq_true hno).symm
  | some y =>
    obtain ⟨h1, h2⟩ := plFind_some h
    have hym : y.c ∈ la.map Signed.c := List.mem_map.2 ⟨y, h1, rfl⟩
    show (!decide (y.c = x.c)) = _
    by_cases e : y.c = x.c
    · have hno : ¬ ¬ (x.c ∈ la.map Signed.c) := fun h => h (e ▸ hym)
      rw [decide_eq_true e]; exact (decide_eq_false hno).symm
    · have hno : ¬ (x.c ∈ la.map Signed.c) := fun hm => e (uniqP_eq hup hym hm (by rw [placeV_c, placeV_c, h2]))
      rw [decide_eq_false e]
      exact (decide_eq_true hno).symm
theorem place_good {s : Signed} {H H' : Hp} (h : Enc.good H s) : Enc.good H' (placeV s) := ⟨h.1.1, h.1.2.1⟩
section
variable {H : Hp} {w : World}
theorem c_byPlaceF (s : Slc Signed) (hu : (s.els.map placeV).Nodup) (hs : Sat H w) (hg : s.Good H) : Calls Tryz.prog 102 #[s.v] w (RetF w H (fun p : Hp × Nat => p.1 p.2 = some (mObj qV (sgEnts (plPairs s.els)))) (fun p => .map (some p.2)) (fun p => p.1)) :=
  (c_byPlace s hu hs hg).mono fun e w' ⟨b, _, he, hst⟩ =>
    ⟨(H.put b (mObj qV (plEnts s.els)), b), by unfold Hp.put; rw [plEnts_eq]; simp, he, (hst.freeze rfl (hst.ok _ (List.Mem.head _)).2).fresh⟩
set_option maxHeartbeats 8000000 in
theorem c_Diff (a b : ZoneV) (ha : ZonedR a.c) (hb : ZonedR b.c) (hap : a.apex = b.apex) {n m : Int} (hn : serialC a.c = n) (hm : serialC b.c = m) (hbef : beforeS n m = true) (hs : Sat H w) (hR : Rules H) (hga : Enc.good H a) (hgb : Enc.good H b) : Calls Tryz.prog 60 #[.agg (enc a).toArray, .agg (enc b).toArray] w (RetF w H (fun p : Hp × DeltaV => DeltaOK a.c b.c p.2 ∧ Enc.good p.1 p.2) (fun p => .tuple #[.agg (enc p.2).toArray, intV 0]) (fun p => p.1)) := by
  have hnr := ha.serial
  have hmr := hb.serial
  rw [hn] at hnr
  rw [hm] at hmr
  have hal : a.sets.len ≤ 20000 := by have := ha.one.few; rw [setsC_len] at this; have := hga.2.len; omega
  have hbl : b.sets.len ≤ 20000 := by have := hb.one.few; rw [setsC_len] at this; have := hgb.2.len; omega
  have hua := zoned_uniq ha.one
  have hub := zoned_uniq hb.one
  refine T.enter (vs := [.agg (enc a).toArray, .agg (enc b).toArray]) (H := H) Tryz.func60 rfl rfl rfl hs ?_
  repeat (any_goals (first | (apply T.seqU 8; rfl) | refine T.region ?_ | refine TL.nil ?_ | refine N.next ?_ | refine T.skip ?_ | (apply T.cond_false; rfl) | (apply T.test; rfl; (exact isx); intro _; rotate_left; intro _; rotate_right) | (apply TL.x; rfl; rfl; (apply X.box (d := 2) (cs := enc a); rfl; rfl; rfl); intro b2 _) | (apply TL.x; rfl; rfl; (apply X.box (d := 3) (cs := enc b); rfl; rfl; rfl); intro b3 _) | (apply TL.x; rfl; rfl; (apply X.alloc (d := 4); rfl; rfl; rfl); intro b4 _) | (apply TL.callE (f := 26) [.agg (enc a).toArray] Tryz.call26; (iterate 4 rfl); (exact fun _ hs => c_zoneSerial a ha hn hs.sat hR hga)) | (apply TL.callE (f := 26) [.agg (enc b).toArray] Tryz.call26; (iterate 4 rfl); (exact fun _ hs => c_zoneSerial b hb hm hs.sat hR hgb)) | (apply TL.callE (f := 81) [intV n, intV m] Tryz.call81; (iterate 4 rfl); (exact fun _ hs => hbef ▸ c_dless n m hnr hmr hs.sat)) | (apply TL.val; rfl; rfl; (first | exact vpure | exact vread))))
  all_goals (try contradiction)
  all_goals (try (exact absurd hap (by assumption)))
  refine T.cut (G := Hp × Nat × Nat × Nat × Nat) (fun g => [(2, .pointer (some ⟨b2, 0, none⟩)), (3, .pointer (some ⟨b3, 0, none⟩)), (4, .pointer (some ⟨b4, 0, none⟩)), (6, intV n), (8, intV m), (10, .pointer (some ⟨g.2.2.2.1, 0, none⟩)), (11, .pointer (some ⟨g.2.2.2.2, 0, none⟩))]) (fun g => g.1) (fun g => [.blk g.2.2.2.2 154 [.map (some g.2.2.1)], .blk g.2.2.2.1 154 [.map (some g.2.1)], .blk b4 122 (enc (⟨[], 0, 0, Slc.nil _, Slc.nil _⟩ : DeltaV)), .blk b3 32 (enc b), .blk b2 32 (enc a)]) (fun g => H.le g.1 ∧ g.1 g.2.1 = some (mObj qV (sgEnts (plPairs a.sets.els))) ∧ g.1 g.2.2.1 = some (mObj qV (sgEnts (plPairs b.sets.els)))) ?_ ?_
  · repeat (any_goals (first | (apply T.regionD wide; rfl) | (apply GT.forkN [2, 6, 7]; decide +kernel; rfl; refine ⟨?_, ?_, ?_, trivial⟩) | (apply GT.forkN [5, 6, 7]; decide +kernel; rfl; refine ⟨?_, ?_, ?_, trivial⟩) | (apply GS.grow; rfl; rfl; (apply X.callFE (f := 102) [a.sets.v] Tryz.call102; rfl; rfl; rfl; exact (fun _ hs => c_byPlaceF a.sets hua hs.sat hga.2)); rintro ⟨H1, m1⟩ ⟨hm1, hle1⟩; have hgb1 := Enc.mono hle1 hgb) | (apply GS.grow; rfl; rfl; (apply X.callFE (f := 102) [b.sets.v] Tryz.call102; rfl; rfl; rfl; exact (fun _ hs => c_byPlaceF b.sets hub hs.sat hgb1.2)); rintro ⟨H2, m2⟩ ⟨hm2, hle2⟩) | (apply GS.grow; rfl; rfl; (apply X.alloc (d := 10); rfl; rfl; rfl); intro b10 _) | (apply GS.grow; rfl; rfl; (apply X.alloc (d := 11); rfl; rfl; rfl); intro b11 _) | (apply GS.eff; rfl; decide +kernel; rfl; (apply X.storeTo 0 [.map (some m1)]; (iterate 10 rfl)); intro _ _) | (apply GS.eff; rfl; decide +kernel; rfl; (apply X.storeTo 1 [.map (some m1)]; (iterate 10 rfl)); intro _ _) | (apply GS.eff; rfl; decide +kernel; rfl; (apply X.storeTo 0 [.map (some m2)]; (iterate 10 rfl)); intro _ _) | (apply GS.eff; rfl; decide +kernel; rfl; (apply X.storeTo 1 [.map (some m2)]; (iterate 10 rfl)); intro _ _) | (apply GT.pure; (iterate 4 rfl); (first | exact vpure); decide +kernel) | (apply GT.read; (iterate 4 rfl); (first | exact vpure | exact vread); decide +kernel) | (apply GT.done; decide +kernel; apply N.ofQ) | (apply GT.adv; rfl) | (apply GT.pureAt 3; (iterate 4 rfl); (first | exact vpure); decide +kernel) | (apply GT.readAt 4; (iterate 4 rfl); (first | exact vpure | exact vread); decide +kernel) | (apply GT.fork1; decide +kernel) | (apply GT.fork2 6; decide +kernel) | (apply GT.fork2 7; decide +kernel)))
    all_goals (try contradiction)
    all_goals first
      | exact N.cut (H2, m1, m2, b10, b11) ⟨hle1.trans hle2, hle2 _ _ hm1, hm2⟩ (by (repeat (first | exact True.intro | refine ⟨rfl, ?_⟩ | refine Sub.int rfl (by omega) ?_))) rfl (List.Sublist.refl _)
      | exact N.perm (List.Perm.swap _ _ _) (N.cut (H2, m1, m2, b10, b11) ⟨hle1.trans hle2, hle2 _ _ hm1, hm2⟩ (by (repeat (first | exact True.intro | refine ⟨rfl, ?_⟩ | refine Sub.int rfl (by omega) ?_))) rfl (List.Sublist.refl _))
      | trace_state
  rintro ⟨H2, m1, m2, b10, b11⟩ ⟨hle2, hm1, hm2⟩
  simp only at hle2 hm1 hm2 ⊢
  refine T.frzZ 0 rfl fun H3 z11 hle3 => ?_
  refine T.frzZ 0 rfl fun H4 z10 hle4 => ?_
  have z11 := Hp.cells_le hle4 z11
  have hm1 := hle4 _ _ (hle3 _ _ hm1)
  have hm2 := hle4 _ _ (hle3 _ _ hm2)
  have hga := Enc.mono ((hle2.trans hle3).trans hle4) hga
  have hgb := Enc.mono ((hle2.trans hle3).trans hle4) hgb
  simp only [List.eraseIdx_cons_zero]
  have hD := fun {w : World} (hs : Sat H4 w) => (c_collectSQ placeV id (fun x => !(gFindS (placeV x) (plPairs b.sets.els)).isSome) a.sets 104 [.pointer (some ⟨b11, 0, none⟩)] Tryz.call104 hal hs hga.2 (fun x hx H' w' hle hs' => (c_Diff1 (plPairs b.sets.els) x b11 m2 rfl hs' (Hp.cells_le hle z11) (hle _ _ hm2)).mono fun e w'' h => ret_retF hs' h (H', placeV x) ⟨fun _ => rfl, place_good (hga.2.els x hx)⟩ rfl rfl)).mono fun e w' h => retO_F (φ := fun l : List Question => l.map id = (a.sets.els.filter fun x => !(gFindS (placeV x) (plPairs b.sets.els)).isSome).map placeV) h
  have hP := fun {H5 : Hp} {w : World} (hle5 : H4.le H5) (hs : Sat H5 w) => (c_collectSS Signed.c Signed.c (putTk a.sets.els) b.sets 107 [.pointer (some ⟨b10, 0, none⟩)] Tryz.call107 hbl hs (hgb.2.mono hle5) (fun x hx H' w' hle hs' => (c_Diff2 a.sets.els x b10 m1 rfl hs' (Hp.cells_le (hle5.trans hle) z10) ((hle5.trans hle) _ _ hm1) (fun y hy => Enc.mono (hle5.trans hle) (hga.2.els y hy)) (Enc.mono (hle5.trans hle) (hgb.2.els x hx)) (zoned_small hb hgb hx).1 (zoned_small hb hgb hx).2).mono fun e w'' ⟨p, h1, h2, h3⟩ => ⟨p, ⟨fun _ => h1.1, h1.2⟩, h2, h3⟩)).mono fun e w' h => retO_F (φ := fun l : List Signed => l.map Signed.c = (b.sets.els.filter (putTk a.sets.els)).map Signed.c) h
  repeat (any_goals (first | refine T.seq ?_ | refine T.region ?_ | refine TL.nil ?_ | refine N.next ?_ | refine T.ret ?_ | (apply TL.x; rfl; rfl; (apply X.alloc (d := 12); rfl; rfl; rfl); intro b12 _) | (apply TL.val; rfl; rfl; ((apply V.makeFunc (vs := []) (us := [.pointer (some ⟨b11, 0, none⟩)]) <;> rfl))) | (apply TL.val; rfl; rfl; ((apply V.makeFunc (vs := []) (us := [.pointer (some ⟨b10, 0, none⟩)]) <;> rfl))) | (apply TL.val; rfl; rfl; (apply V.build; (iterate 6 rfl))) | (apply TL.x; rfl; rfl; (apply X.storeTo 0 (enc (⟨a.apex, n, m, Slc.nil _, Slc.nil _⟩ : DeltaV)); (iterate 10 rfl)); intro _ _) | (apply TL.x; rfl; rfl; (apply X.callFE (f := 103) [a.sets.v, .func (.func 104) #[] #[.pointer (some ⟨b11, 0, none⟩)]] Tryz.call103; rfl; rfl; rfl; exact (fun _ hs => hD hs.sat)); rintro ⟨Hd, dr⟩ ⟨⟨hd1, hd2⟩, hled⟩) | (apply TL.x; rfl; rfl; (apply X.storeTo 0 (enc (⟨a.apex, n, m, dr, Slc.nil _⟩ : DeltaV)); (iterate 10 rfl)); intro _ _) | (apply TL.x; rfl; rfl; (apply X.callFE (f := 106) [b.sets.v, .func (.func 107) #[] #[.pointer (some ⟨b10, 0, none⟩)]] Tryz.call106; rfl; rfl; rfl; exact (fun _ hs => hP hled hs.sat)); rintro ⟨Hu, pu⟩ ⟨⟨hp1, hp2⟩, hlep⟩) | (apply TL.x; rfl; rfl; (apply X.storeTo 0 (enc (⟨a.apex, n, m, dr, pu⟩ : DeltaV)); (iterate 10 rfl)); intro _ _) | (apply TL.x; rfl; rfl; (apply X.storeTo 1 (enc (⟨a.apex, n, m, dr, pu⟩ : DeltaV)); (iterate 10 rfl)); intro _ _) | (apply TL.val; rfl; rfl; (first | exact vpure | exact vread))))
  all_goals (try contradiction)
  refine N.ret2 rfl (by (exact rvx)) (by (exact rvx)) fun w1 hst => ⟨(Hu, ⟨a.apex, n, m, dr, pu⟩), ⟨⟨rfl, hn.symm, hm.symm, ?_, ?_⟩, ?_⟩, rfl, ⟨hst.fresh.below, hst.fresh.sat, hst.fresh.le, hst.fresh.new⟩⟩
  · rw [List.map_id, drop_eq] at hd1
    exact hd1
  · rw [put_eq hua] at hp1
    exact hp1
  · exact ⟨hga.1, by show I64 n; unfold I64; omega, by show I64 m; unfold I64; omega, hd2.mono hlep, hp2⟩
end
end Go.Proofs.YthabgdbhgcgemaaGreatDoor
namespace Go.Proofs.YthabgdbhgcgemaaGreatDoor
set_option linter.unusedVariables false
set_option linter.unusedSimpArgs false
open Go Go.RowKit
open Enc (enc)
set_option maxRecDepth 20000
def CopyTo (H : Hp) (els els' : List Signed) (k : Nat) : Prop := els'.length = els.length ∧ ∀ j s, els[j]? = some s → ∃ s', els'[j]? = some s' ∧ s'.c = s.c ∧ Enc.good H s' ∧ (k ≤ j → s' = s)
theorem copyTo_up {H H' : Hp} {els els' : List Signed} {k : Nat} {s y : Signed} (h : CopyTo H els els' k) (hle : H.le H') (hk : els[k]? = some s) (hc : y.c = s.c) (hy : Enc.good H' y) : CopyTo H' els (els'.set k y) (k + 1) := by
  refine ⟨by rw [List.length_set]; exact h.1, fun j t hj => ?_⟩
  obtain ⟨s', h1, h2, h3, h4⟩ := h.2 j t hj
  by_cases e : k = j
  · subst e
    rw [hk] at hj
    cases hj
    exact ⟨y, List.getElem?_set_self (List.getElem?_eq_some_iff.1 h1).1, hc, hy, fun h' => by omega⟩
  · exact ⟨s', by rw [List.getElem?_set_ne e]; exact h1, h2, Enc.mono hle h3, fun h' => h4 (by omega)⟩
theorem copyTo_c {H : Hp} {els els' : List Signed} {k : Nat} (h : CopyTo H els els' k) : els'.map Signed.c = els.map Signed.c := by
  apply List.ext_getElem?
  intro j
  rw [List.getElem?_map, List.getElem?_map]
  cases hj : els[j]? with
  | none =>
    rw [List.getElem?_eq_none_iff, ← h.1, ← List.getElem?_eq_none_iff] at hj
    rw [hj]
  | some s =>
    obtain ⟨s', h1, h2, _⟩ := h.2 j s hj
    rw [h1]; exact congrArg some h2
theorem copyTo_good {H : Hp} {els els' : List Signed} {k : Nat} (h : CopyTo H els els' k) : ∀ x ∈ els', Enc.good H x := fun x hx => by
  obtain ⟨j, hj, rfl⟩ := List.mem_iff_getElem.1 hx
  obtain ⟨s', h1, _, h3, _⟩ := h.2 j (els[j]'(by rw [← h.1]; exact hj)) (List.getElem?_eq_getElem _)
  rw [List.getElem?_eq_getElem hj] at h1
  cases h1; exact h3
end Go.Proofs.YthabgdbhgcgemaaGreatDoor
