/- Walks: the reader of messages: numbers and texts. -/
import Derived.Test.YtogcofeencgipaaGreatDoorSPJ
namespace Go.Proofs.YtogcofeencgipaaGreatDoor
set_option linter.unusedVariables false
set_option linter.unusedSimpArgs false
open Go Go.RowKit
set_option maxRecDepth 20000
theorem small_take {l a r : Bytes} (h : takeR 1 l = some (a, r)) : ∃ c, a = [c] ∧ smallR l = some (c.toNat, r) := by
  obtain ⟨h1, rfl⟩ := takeR_some.1 h
  match a, h1 with
  | [c], _ => exact ⟨c, rfl, rfl⟩
theorem small_none {l : Bytes} (h : takeR 1 l = none) : smallR l = none := by
  have := takeR_none.1 h
  match l, this with
  | [], _ => rfl
theorem word_take {l a r : Bytes} (h : takeR 8 l = some (a, r)) : wordCod.rd l = some (wordOf a, r) ∧ a.length = 8 := by
  refine ⟨?_, (takeR_some.1 h).1⟩
  show (takeR 8 l).map _ = _
  rw [h]; rfl
theorem word_none {l : Bytes} (h : takeR 8 l = none) : wordCod.rd l = none := by
  show (takeR 8 l).map _ = _
  rw [h]; rfl
theorem num_word {l r : Bytes} {n : Nat} (h : wordCod.rd l = some (n, r)) : numCod.rd l = some (intOf n, r) := by
  show (wordCod.rd l).map _ = _
  rw [h]; rfl
theorem num_none {l : Bytes} (h : wordCod.rd l = none) : numCod.rd l = none := by
  show (wordCod.rd l).map _ = _
  rw [h]; rfl
theorem text_small {l r : Bytes} {n : Nat} (h : smallR l = some (n, r)) : textCod.rd l = takeR n r := by
  cases l with
  | nil => cases h
  | cons c l =>
    simp only [smallR, Option.some.injEq, Prod.mk.injEq] at h
    show takeR c.toNat l = _
    rw [h.1, h.2]
theorem text_none {l : Bytes} (h : smallR l = none) : textCod.rd l = none := by
  cases l with
  | nil => rfl
  | cons c l => cases h
section
variable {w0 w : World} {H0 H : Hp} {L : List Loc} {b : Nat}
theorem c_small {s : Slc UInt8} (hs : St w0 H0 H (pkL b s :: L) w) (hg : s.Good H) : CallsIn (FW none) 0 Tryz.prog 122 #[.pointer (some ⟨b, 0, none⟩)] w (RdP w0 H0 H b L smallR (fun n => n < 256) s.els (fun n => intV n)) := by
  refine T.enterIn (vs := [.pointer (some ⟨b, 0, none⟩)]) Tryz.func122 rfl rfl rfl hs ?_
  refine T.seq ?_
  refine T.region ?_
  apply TL.val; rfl; rfl; exact vpure
  refine TL.nil ?_
  refine N.next ?_
  refine T.seq ?_
  refine T.region ?_
  apply TL.val; rfl; rfl; exact vpure
  (apply TL.callPB [.pointer (some ⟨b, 0, none⟩), intV 1] (d := 4) (f := 173); rfl; rfl; rfl; rfl; rfl; exact Tryz.call173; exact (fun _ hs => c_take hs hg); (intro p hp; (repeat (first | refine N.panic_then ?_ | refine N.panic_block ?_)); (exact N.panic_end fun w hst => .inr ⟨s, small_none (hp.resolve_left (by decide)), rfl, hst⟩)); intro p hp; skip)
  obtain ⟨a, t⟩ := p
  obtain ⟨_, ht, hga, hgt⟩ := hp
  simp only at ht hga hgt ⊢
  obtain ⟨c, hc, hr⟩ := small_take ht
  have hal : a.len = 1 := by rw [← hga.len, hc]; rfl
  have hc0 := hga.row (k := 0) (by omega)
  have hce : a.els[0]'(by rw [hc]; simp) = c := by simp [hc]
  have hsm := c.toNat_lt
  repeat (any_goals (first | refine T.seq ?_ | refine T.region ?_ | refine TL.nil ?_ | refine N.next ?_ | refine N.inBlock ?_ | refine N.exit_same ?_ | refine N.exit_then ?_ | refine N.ret_then ?_ | refine N.ret_block ?_ | (apply N.exit_other; rfl) | refine T.ret ?_ | refine T.skip ?_ | refine T.exit ?_ | refine T.block ?_ | (apply T.cond_true; rfl) | (apply T.cond_false; rfl) | (apply T.test; rfl; (with_reducible (first | exact Is.ndec | exact Is.dec | exact Is.not | ((fail_if_success exact Is.litT); (fail_if_success exact Is.litF); exact Is.base))); intro _; rotate_left; intro _; rotate_right) | (apply TL.skip; rfl; rfl; rfl) | (apply TL.skip_none; rfl; rfl) | (apply TL.val; rfl; rfl; (apply V.elem (j := 0); rfl; rfl; rfl; rfl; rfl; rfl; (rw [hal]; decide); exact hga.at_ (by omega))) | (apply TL.val; rfl; rfl; (apply V.load_H (v := .int .u8 c.toNat); rfl; rfl; rfl; exact (hce ▸ hc0 0 _ rfl))) | (apply TL.val; rfl; rfl; (apply V.conv; rfl; rfl; rfl; rfl; exact IntWalk.i64_in _ (by omega))) | (apply TL.val; rfl; rfl; (first | exact vpure | exact vread)) | (apply TL.x; rfl; rfl; (first | exact xgrow | exact xput); intro _ _) | (apply TL.guard; rfl; rfl; rfl; (with_reducible (first | exact Is.ndec | exact Is.dec | exact Is.not | ((fail_if_success exact Is.litT); (fail_if_success exact Is.litF); exact Is.base))); intro _; rotate_left; intro _; rotate_right)))
  all_goals (try (exfalso; omega))
  exact N.ret1 rfl (by (exact rvx)) fun w hst => .inl ⟨(c.toNat, t), ⟨hr, hgt, hsm⟩, rfl, hst⟩
theorem c_rdWord {s : Slc UInt8} (hs : St w0 H0 H (pkL b s :: L) w) (hg : s.Good H) : CallsIn (FW none) 0 Tryz.prog 172 #[.pointer (some ⟨b, 0, none⟩)] w (RdP w0 H0 H b L wordCod.rd (fun n => n < 18446744073709551616) s.els (fun n => .int .u64 (n : Nat))) := by
  refine T.enterIn (vs := [.pointer (some ⟨b, 0, none⟩)]) Tryz.func172 rfl rfl rfl hs ?_
  refine T.seq ?_
  refine T.region ?_
  apply TL.val; rfl; rfl; exact vpure
  refine TL.nil ?_
  refine N.next ?_
  refine T.seq ?_
  refine T.region ?_
  apply TL.val; rfl; rfl; exact vpure
  (apply TL.callPB [.pointer (some ⟨b, 0, none⟩), intV 8] (d := 4) (f := 173); rfl; rfl; rfl; rfl; rfl; exact Tryz.call173; exact (fun _ hs => c_take hs hg); (intro p hp; (repeat (first | refine N.panic_then ?_ | refine N.panic_block ?_)); (exact N.panic_end fun w hst => .inr ⟨s, word_none (hp.resolve_left (by decide)), rfl, hst⟩)); intro p hp; skip)
  obtain ⟨a, t⟩ := p
  obtain ⟨_, ht, hga, hgt⟩ := hp
  simp only at ht hga hgt ⊢
  obtain ⟨hr, hal⟩ := word_take ht
  have hlt := wordOf_lt 8 a.els (by omega)
  repeat (any_goals (first | refine T.seq ?_ | refine T.region ?_ | refine TL.nil ?_ | refine N.next ?_ | refine N.inBlock ?_ | refine N.exit_same ?_ | refine N.exit_then ?_ | refine N.ret_then ?_ | refine N.ret_block ?_ | (apply N.exit_other; rfl) | refine T.ret ?_ | refine T.skip ?_ | refine T.exit ?_ | refine T.block ?_ | (apply T.cond_true; rfl) | (apply T.cond_false; rfl) | (apply T.test; rfl; (with_reducible (first | exact Is.ndec | exact Is.dec | exact Is.not | ((fail_if_success exact Is.litT); (fail_if_success exact Is.litF); exact Is.base))); intro _; rotate_left; intro _; rotate_right) | (apply TL.skip; rfl; rfl; rfl) | (apply TL.skip_none; rfl; rfl) | (apply TL.callE (f := 57) [a.v] Tryz.call57; rfl; rfl; rfl; rfl; (exact fun _ hs => c_wordOf a _ _ hs.sat hga hal)) | (apply TL.val; rfl; rfl; (first | exact vpure | exact vread)) | (apply TL.x; rfl; rfl; (first | exact xgrow | exact xput); intro _ _) | (apply TL.guard; rfl; rfl; rfl; (with_reducible (first | exact Is.ndec | exact Is.dec | exact Is.not | ((fail_if_success exact Is.litT); (fail_if_success exact Is.litF); exact Is.base))); intro _; rotate_left; intro _; rotate_right)))
  all_goals (try (exfalso; omega))
  exact N.ret1 rfl (by (exact rvx)) fun w hst => .inl ⟨(wordOf a.els, t), ⟨hr, hgt, hlt⟩, rfl, hst⟩
theorem c_number {s : Slc UInt8} (hs : St w0 H0 H (pkL b s :: L) w) (hg : s.Good H) : CallsIn (FW none) 0 Tryz.prog 119 #[.pointer (some ⟨b, 0, none⟩)] w (RdP w0 H0 H b L numCod.rd I64 s.els (fun n => intV n)) := by
  refine T.enterIn (vs := [.pointer (some ⟨b, 0, none⟩)]) Tryz.func119 rfl rfl rfl hs ?_
  refine T.seq ?_
  refine T.region ?_
  apply TL.val; rfl; rfl; exact vpure
  refine TL.nil ?_
  refine N.next ?_
  refine T.seq ?_
  refine T.region ?_
  apply TL.val; rfl; rfl; exact vpure
  (apply TL.callPB [.pointer (some ⟨b, 0, none⟩)] (d := 4) (f := 172); rfl; rfl; rfl; rfl; rfl; exact Tryz.call172; exact (fun _ hs => c_rdWord hs hg); (intro p hp; (repeat (first | refine N.panic_then ?_ | refine N.panic_block ?_)); (exact N.panic_end fun w hst => .inr ⟨p, num_none hp, rfl, hst⟩)); intro p hp; skip)
  obtain ⟨n, t⟩ := p
  obtain ⟨hr, hgt, hlt⟩ := hp
  simp only at hr hgt hlt ⊢
  repeat (any_goals (first | refine T.seq ?_ | refine T.region ?_ | refine TL.nil ?_ | refine N.next ?_ | refine N.inBlock ?_ | refine N.exit_same ?_ | refine N.exit_then ?_ | refine N.ret_then ?_ | refine N.ret_block ?_ | (apply N.exit_other; rfl) | refine T.ret ?_ | refine T.skip ?_ | refine T.exit ?_ | refine T.block ?_ | (apply T.cond_true; rfl) | (apply T.cond_false; rfl) | (apply T.test; rfl; (with_reducible (first | exact Is.ndec | exact Is.dec | exact Is.not | ((fail_if_success exact Is.litT); (fail_if_success exact Is.litF); exact Is.base))); intro _; rotate_left; intro _; rotate_right) | (apply TL.skip; rfl; rfl; rfl) | (apply TL.skip_none; rfl; rfl) | (apply TL.val; rfl; rfl; (apply V.convW (r := .i64) (j := intOf n); rfl; rfl; rfl; rfl; exact wrap_intOf hlt)) | (apply TL.val; rfl; rfl; (first | exact vpure | exact vread)) | (apply TL.x; rfl; rfl; (first | exact xgrow | exact xput); intro _ _) | (apply TL.guard; rfl; rfl; rfl; (with_reducible (first | exact Is.ndec | exact Is.dec | exact Is.not | ((fail_if_success exact Is.litT); (fail_if_success exact Is.litF); exact Is.base))); intro _; rotate_left; intro _; rotate_right)))
  all_goals (try (exfalso; omega))
  exact N.ret1 rfl (by (exact rvx)) fun w hst => .inl ⟨(intOf n, t), ⟨num_word hr, hgt, intOf_i64 hlt⟩, rfl, hst⟩
theorem c_rdText {s : Slc UInt8} (hs : St w0 H0 H (pkL b s :: L) w) (hg : s.Good H) : CallsIn (FW none) 0 Tryz.prog 120 #[.pointer (some ⟨b, 0, none⟩)] w (RdP w0 H0 H b L textCod.rd (fun x => x.length ≤ 255) s.els (fun x => strV x)) := by
  refine T.enterIn (vs := [.pointer (some ⟨b, 0, none⟩)]) Tryz.func120 rfl rfl rfl hs ?_
  refine T.seq ?_
  refine T.region ?_
  apply TL.val; rfl; rfl; exact vpure
  refine TL.nil ?_
  refine N.next ?_
  refine T.seq ?_
  refine T.region ?_
  apply TL.val; rfl; rfl; exact vpure
  apply TL.val; rfl; rfl; exact vpure
  (apply TL.callPB [.pointer (some ⟨b, 0, none⟩)] (d := 5) (f := 122); rfl; rfl; rfl; rfl; rfl; exact Tryz.call122; exact (fun _ hs => c_small hs hg); (intro p hp; (repeat (first | refine N.panic_then ?_ | refine N.panic_block ?_)); (exact N.panic_end fun w hst => .inr ⟨p, text_none hp, rfl, hst⟩)); intro p hp; skip)
  obtain ⟨n, t⟩ := p
  obtain ⟨hr, hgt, hn⟩ := hp
  simp only at hr hgt hn ⊢
  (apply TL.callPB [.pointer (some ⟨b, 0, none⟩), intV n] (d := 6) (f := 173); rfl; rfl; rfl; rfl; rfl; exact Tryz.call173; exact (fun _ hs => c_take hs hgt); (intro p hp; (repeat (first | refine N.panic_then ?_ | refine N.panic_block ?_)); (exact N.panic_end fun w hst => .inr ⟨t, (text_small hr).trans (by rcases hp with h | h; omega; simpa using h), rfl, hst⟩)); intro p hp; skip)
  obtain ⟨a, u⟩ := p
  obtain ⟨_, ht, hga, hgu⟩ := hp
  simp only [Int.toNat_natCast] at ht hga hgu ⊢
  have hal := (takeR_some.1 ht).1
  repeat (any_goals (first | refine T.seq ?_ | refine T.region ?_ | refine TL.nil ?_ | refine N.next ?_ | refine N.inBlock ?_ | refine N.exit_same ?_ | refine N.exit_then ?_ | refine N.ret_then ?_ | refine N.ret_block ?_ | (apply N.exit_other; rfl) | refine T.ret ?_ | refine T.skip ?_ | refine T.exit ?_ | refine T.block ?_ | (apply T.cond_true; rfl) | (apply T.cond_false; rfl) | (apply T.test; rfl; (with_reducible (first | exact Is.ndec | exact Is.dec | exact Is.not | ((fail_if_success exact Is.litT); (fail_if_success exact Is.litF); exact Is.base))); intro _; rotate_left; intro _; rotate_right) | (apply TL.skip; rfl; rfl; rfl) | (apply TL.skip_none; rfl; rfl) | (apply TL.val; rfl; rfl; (apply V.bytesStr (q := a); rfl; rfl; rfl; rfl; rfl; rfl; rfl; exact hga)) | (apply TL.val; rfl; rfl; (first | exact vpure | exact vread)) | (apply TL.x; rfl; rfl; (first | exact xgrow | exact xput); intro _ _) | (apply TL.guard; rfl; rfl; rfl; (with_reducible (first | exact Is.ndec | exact Is.dec | exact Is.not | ((fail_if_success exact Is.litT); (fail_if_success exact Is.litF); exact Is.base))); intro _; rotate_left; intro _; rotate_right)))
  all_goals (try (exfalso; omega))
  exact N.ret1 rfl (by (exact rvx)) fun w hst => .inl ⟨(a.els, u), ⟨(text_small hr).trans ht, hgu, by show a.els.length ≤ 255; omega⟩, rfl, hst⟩
end
end Go.Proofs.YtogcofeencgipaaGreatDoor
