/- Walks: a set's bytes, its sum. -/
import Derived.Test.YtpnoabbdcakjkaaGreatDoorQTA
namespace Go.Proofs.YtpnoabbdcakjkaaGreatDoor
set_option linter.unusedVariables false
set_option linter.unusedSimpArgs false
open Go Go.RowKit
open Enc (enc)
set_option maxRecDepth 20000

theorem nameOK_le {l : Bytes} (h : nameOK l = true) : l.length ≤ 60 := by
  rcases (nameOK_iff l).1 h with rfl | ⟨h, _⟩
  · decide
  · exact h
theorem datumBy_le {r : Rule} {d : Datum} (h : datumBy r d = true) : d.text.length ≤ 60 := by
  unfold datumBy at h
  simp only [Bool.and_eq_true] at h
  have h3 := h.2
  by_cases h1 : r.text = 1
  · rw [if_pos h1, Bool.and_eq_true] at h3; exact nameOK_le h3.1
  · rw [if_neg h1] at h3
    by_cases h2 : r.text = 2
    · rw [if_pos h2] at h3; exact nameOK_le h3
    · rw [if_neg h2] at h3
      by_cases h4 : r.text = 3
      · rw [if_pos h4] at h3
        have h5 : Word 32 40 d.text := of_decide_eq_true h3
        have := h5.2.1
        omega
      · rw [if_neg h4] at h3
        rw [of_decide_eq_true h3]; decide
structure SetShort (s : SetC) : Prop where
  name : s.name.length ≤ 60
  data : s.data.length ≤ 8
  texts : ∀ d ∈ s.data, d.text.length ≤ 60
theorem setOK_short {s : SetC} (h : setOK s = true) : SetShort s := by
  unfold setOK at h
  simp only [Bool.and_eq_true, List.all_eq_true, decide_eq_true_eq] at h
  obtain ⟨⟨⟨⟨⟨⟨⟨h1, _⟩, _⟩, _, h8⟩, _⟩, _⟩, h2⟩, _⟩ := h
  refine ⟨nameOK_le h1, h8, fun d hd => ?_⟩
  have := h2 d hd
  unfold datumOK at this
  rw [Bool.and_eq_true] at this
  exact datumBy_le this.2
theorem textB_len (s : Bytes) : (textB s).length = s.length + 1 := rfl
theorem datumB_len (d : Datum) : (datumB d).length = d.text.length + 17 := by simp only [datumB, List.length_append, textB_len, num8_len]
theorem datas_len : ∀ (l : List Datum), (∀ d ∈ l, d.text.length ≤ 60) → (l.flatMap datumB).length ≤ l.length * 77
  | [], _ => Nat.le_refl _
  | d :: l, h => by
    have h1 := datas_len l fun d hd => h d (List.mem_cons_of_mem _ hd)
    have h2 := h d List.mem_cons_self
    rw [List.flatMap_cons, List.length_append, datumB_len, List.length_cons]
    omega
def headB (s : SetC) : Bytes := textB s.name ++ num8 s.typ ++ num8 s.life ++ [byteOf s.data.length]
def upToB (s : SetC) (k : Nat) : Bytes := headB s ++ (s.data.take k).flatMap datumB
theorem headB_len {s : SetC} (h : SetShort s) : (headB s).length ≤ 78 := by
  have := h.name
  simp only [headB, List.length_append, textB_len, num8_len, List.length_cons, List.length_nil]; omega
theorem upToB_len {s : SetC} (h : SetShort s) (k : Nat) : (upToB s k).length ≤ 700 := by
  have h1 := headB_len h
  have h2 := datas_len (s.data.take k) fun d hd => h.texts d (List.mem_of_mem_take hd)
  have h3 : (s.data.take k).length ≤ 8 := by have := h.data; rw [List.length_take]; omega
  unfold upToB
  rw [List.length_append]; omega
theorem upToB_up {s : SetC} {k : Nat} {d : Datum} (h : s.data[k]? = some d) : upToB s (k + 1) = upToB s k ++ textB d.text ++ num8 d.n ++ num8 d.m := by
  unfold upToB
  rw [List.take_add_one, h, List.flatMap_append]
  simp [datumB]
theorem upToB_all (s : SetC) : upToB s s.data.length = setB s := by
  unfold upToB
  rw [List.take_length]; rfl
section
variable {w0 w : World} {H0 H : Hp} {L : List Loc}
theorem c_BytesF (s : RSet) (H : Hp) (w : World) (hs : Sat H w) (hR : Rules H) (hg : Enc.good H s) (hv : setOK s.c = false) : Calls Tryz.prog 80 #[.agg (enc s).toArray] w (Ret w (.tuple #[.slice none 0 0, intV 1])) := by
  refine T.enter (vs := [.agg (enc s).toArray]) (H := H) Tryz.func80 rfl rfl rfl hs ?_
  repeat (any_goals (first | refine T.seq ?_ | refine T.region ?_ | refine TL.nil ?_ | refine N.next ?_ | refine N.inBlock ?_ | refine N.exit_same ?_ | refine N.exit_then ?_ | refine N.ret_then ?_ | refine N.ret_block ?_ | (apply N.exit_other; rfl) | refine T.ret ?_ | refine T.skip ?_ | refine T.exit ?_ | refine T.block ?_ | (apply T.cond_true; rfl) | (apply T.cond_false; rfl) | (apply T.test; rfl; (exact isx); intro _; rotate_left; intro _; rotate_right) | (apply TL.skip; rfl; rfl; rfl) | (apply TL.skip_none; rfl; rfl) | (apply TL.callE (f := 46) [.agg (enc s).toArray] Tryz.call46; (iterate 4 rfl); (exact fun _ hs => hv ▸ c_recordValid s _ _ hs.sat hR hg)) | (apply TL.val; rfl; rfl; (first | exact vpure | exact vread)) | (apply TL.x; rfl; rfl; (first | exact xgrow | exact xput); intro _ _) | (apply TL.guard; rfl; rfl; rfl; (exact isx); intro _; rotate_left; intro _; rotate_right)))
  exact N.ret_two rfl (by (exact rvx)) (by (exact rvx)) rfl
set_option maxHeartbeats 2000000 in
theorem c_BytesT (s : RSet) (H : Hp) (w : World) (hs : Sat H w) (hR : Rules H) (hg : Enc.good H s) (hv : setOK s.c = true) : Calls Tryz.prog 80 #[.agg (enc s).toArray] w (RetF w H (fun p : Hp × Slc UInt8 => p.2.els = setB s.c ∧ p.2.Good p.1) (fun p => .tuple #[p.2.v, intV 0]) (fun p => p.1)) := by
  have hsh := setOK_short hv
  have hg' := hg
  obtain ⟨hl, ht, hlf, hd⟩ := hg
  have hlen : s.data.els.length = s.data.len := hd.len
  have hdl : s.data.len ≤ 8 := by have := hsh.data; rw [← hlen]; exact this
  have hnl : s.name.length ≤ 60 := hsh.name
  refine T.enter (vs := [.agg (enc s).toArray]) (H := H) Tryz.func80 rfl rfl rfl hs ?_
  repeat (any_goals (first | (apply T.seqU 4; rfl) | refine T.region ?_ | refine TL.nil ?_ | refine N.next ?_ | refine N.inBlock ?_ | refine N.exit_same ?_ | refine N.exit_then ?_ | refine N.ret_then ?_ | refine N.ret_block ?_ | (apply N.exit_other; rfl) | refine T.ret ?_ | refine T.skip ?_ | refine T.exit ?_ | refine T.block ?_ | (apply T.cond_true; rfl) | (apply T.cond_false; rfl) | (apply T.test; rfl; (exact isx); intro _; rotate_left; intro _; rotate_right) | (apply TL.skip; rfl; rfl; rfl) | (apply TL.skip_none; rfl; rfl) | (apply TL.callE (f := 46) [.agg (enc s).toArray] Tryz.call46; (iterate 4 rfl); (exact fun _ hs => hv ▸ c_recordValid s _ _ hs.sat hR hg')) | (apply TL.val; rfl; rfl; (first | exact vpure | exact vread)) | (apply TL.x; rfl; rfl; (first | exact xgrow | exact xput); intro _ _) | (apply TL.guard; rfl; rfl; rfl; (exact isx); intro _; rotate_left; intro _; rotate_right)))
  rename_i b1 _
  refine T.nilRow 5 1 ?_
  repeat (any_goals (first | refine T.seq ?_ | refine T.region ?_ | refine TL.nil ?_ | refine N.next ?_ | refine N.inBlock ?_ | refine N.exit_same ?_ | refine N.exit_then ?_ | refine N.ret_then ?_ | refine N.ret_block ?_ | (apply N.exit_other; rfl) | refine T.ret ?_ | refine T.skip ?_ | refine T.exit ?_ | refine T.block ?_ | (apply T.cond_true; rfl) | (apply T.cond_false; rfl) | (apply T.test; rfl; (exact isx); intro _; rotate_left; intro _; rotate_right) | (apply TL.skip; rfl; rfl; rfl) | (apply TL.skip_none; rfl; rfl) | (apply TL.x; rfl; rfl; (apply X.callS0 Tryz.call117; rfl; rfl; exact fun _ hs => CallsIn.at_ 0 hs rfl (fun hs => c_appendText [] _ _ hs (by (first | omega | (simp only [List.length_append, textB_len, num8_len, List.length_cons, List.length_nil]; omega))))); intro v2 _) | (apply TL.x; rfl; rfl; (apply X.callS0 Tryz.call118; rfl; rfl; exact fun _ hs => CallsIn.at_ 0 hs rfl (fun hs => c_appendNumber _ _ _ hs (by (first | omega | (simp only [List.length_append, textB_len, num8_len, List.length_cons, List.length_nil]; omega))))); intro v3 _) | (apply TL.val; rfl; rfl; (apply V.convW (r := .u8); (iterate 4 rfl); exact byte_wrap _ s.data.len rfl (Int.natCast_nonneg _))) | (apply TL.x; rfl; rfl; (apply X.appendBy 1; (iterate 10 rfl); exact List.Mem.head _; (first | omega | (simp only [List.length_append, textB_len, num8_len, List.length_cons, List.length_nil]; omega))); intro v4 _) | (apply TL.val; rfl; rfl; (first | exact vpure | exact vread)) | (apply TL.x; rfl; rfl; (first | exact xgrow | exact xput); intro _ _) | (apply TL.guard; rfl; rfl; rfl; (exact isx); intro _; rotate_left; intro _; rotate_right)))
  refine T.loop (G := Nat × Value) (fun g => [(4, g.2), (30, .slice s.data.A s.data.len s.data.cap), (31, intV s.data.len), (32, intV g.1)]) (fun _ => H) (fun g => [bR g.2 (upToB s.c g.1)]) (fun g => g.1 ≤ s.data.len) (fun g => s.data.len - g.1) (0, v4) (Nat.zero_le _) (by (repeat (first | exact True.intro | refine ⟨rfl, ?_⟩ | refine Sub.int rfl (by omega) ?_))) rfl ?_ ?_
  · have e1 : upToB s.c 0 = [] ++ textB s.name ++ num8 s.typ ++ num8 s.life ++ [byteOf s.data.len] := by
      rw [← hlen]
      simp [upToB, headB, RSet.c]
    rw [e1]
    exact List.Sublist.cons _ (List.Sublist.cons_cons _ (List.nil_sublist _))
  rintro ⟨k, v1⟩ hk
  simp only at hk ⊢
  have hlu := upToB_len hsh k
  by_cases hlt : k < s.data.len
  · have hkk : k < s.data.els.length := by omega
    have htl : (s.data.els[k]'hkk).text.length ≤ 60 := hsh.texts _ (List.getElem_mem _)
    repeat (any_goals (first | refine T.seq ?_ | refine T.region ?_ | refine TL.nil ?_ | refine N.next ?_ | refine N.inBlock ?_ | refine N.exit_same ?_ | refine N.exit_then ?_ | refine N.ret_then ?_ | refine N.ret_block ?_ | (apply N.exit_other; rfl) | refine T.ret ?_ | refine T.skip ?_ | refine T.exit ?_ | refine T.block ?_ | (apply T.cond_true; rfl) | (apply T.cond_false; rfl) | (apply T.test; rfl; (exact isx); intro _; rotate_left; intro _; rotate_right) | (apply TL.skip; rfl; rfl; rfl) | (apply TL.skip_none; rfl; rfl) | (apply TL.x; rfl; rfl; (apply X.callS0 Tryz.call117; rfl; rfl; exact fun _ hs => CallsIn.at_ 1 hs rfl (fun hs => c_appendText _ _ _ hs (by (first | omega | (simp only [List.length_append, textB_len, num8_len, List.length_cons, List.length_nil]; omega))))); intro v2 _) | (apply TL.x; rfl; rfl; (apply X.callS0 Tryz.call118; rfl; rfl; exact fun _ hs => CallsIn.at_ 1 hs rfl (fun hs => c_appendNumber _ _ _ hs (by (first | omega | (simp only [List.length_append, textB_len, num8_len, List.length_cons, List.length_nil]; omega))))); intro v3 _) | (apply TL.val; rfl; rfl; (first | exact vpure | exact vread)) | (apply TL.x; rfl; rfl; (first | exact xgrow | exact xput); intro _ _) | (apply TL.guard; rfl; rfl; rfl; (exact isx); intro _; rotate_left; intro _; rotate_right)))
    all_goals (try (exfalso; omega))
    refine N.round (k + 1, v3) (by show k + 1 ≤ _; omega) (by show s.data.len - (k + 1) < s.data.len - k; omega) (by (repeat (first | exact True.intro | refine ⟨rfl, ?_⟩ | refine Sub.int rfl (by omega) ?_))) rfl ?_
    have e1 : upToB s.c (k + 1) = upToB s.c k ++ textB (s.data.els[k]'hkk).text ++ num8 (s.data.els[k]'hkk).n ++ num8 (s.data.els[k]'hkk).m := upToB_up (d := s.data.els[k]'hkk) (List.getElem?_eq_getElem hkk)
    rw [e1]
    exact List.Sublist.cons _ (List.Sublist.refl _)
  · have hke : k = s.data.len := by omega
    subst hke
    repeat (any_goals (first | refine T.seq ?_ | refine T.region ?_ | refine TL.nil ?_ | refine N.next ?_ | refine N.inBlock ?_ | refine N.exit_same ?_ | refine N.exit_then ?_ | refine N.ret_then ?_ | refine N.ret_block ?_ | (apply N.exit_other; rfl) | refine T.ret ?_ | refine T.skip ?_ | refine T.exit ?_ | refine T.block ?_ | (apply T.cond_true; rfl) | (apply T.cond_false; rfl) | (apply T.test; rfl; (exact isx); intro _; rotate_left; intro _; rotate_right) | (apply TL.skip; rfl; rfl; rfl) | (apply TL.skip_none; rfl; rfl) | (apply TL.val; rfl; rfl; (first | exact vpure | exact vread)) | (apply TL.x; rfl; rfl; (first | exact xgrow | exact xput); intro _ _) | (apply TL.guard; rfl; rfl; rfl; (exact isx); intro _; rotate_left; intro _; rotate_right)))
    all_goals (try (exfalso; omega))
    apply N.ret2 rfl (by (exact rvx)) (by (exact rvx))
    intro w1 hst
    have e1 : upToB s.c s.data.len = setB s.c := by rw [← hlen]; exact upToB_all s.c
    rw [e1] at hst
    obtain ⟨H2, s2, f1, f2, f3, f4, f5⟩ := hst.freezeRow (α := UInt8) rfl rfl (fun _ _ => trivial)
    exact ⟨(H2, s2), ⟨f2, f3⟩, by rw [← f1], f5.fresh⟩
end
end Go.Proofs.YtpnoabbdcakjkaaGreatDoor
