/- Plain laws: forwarding resolvers. -/
import Derived.Test.YtohfliekhbpopaaDoorSpec4
namespace Go.Proofs.YtohfliekhbpopaaDoor
set_option linter.unusedVariables false
set_option linter.unusedSimpArgs false
open Go
structure FwdC where
  q : Question
  own : Int
  ups : List Int
  at_ : Int
  tried : Int
  til : Int
  id : Int
  done : Bool
  dark : Bool
  ans : AnswerC
  deriving DecidableEq
def ansNil : AnswerC := ⟨0, [], []⟩
def msgNil : MsgC := ⟨0, 0, 0, 0, ⟨[], 0⟩, ansNil⟩
def fwdNil : FwdC := ⟨⟨[], 0⟩, 0, [], 0, 0, 0, 0, false, false, ansNil⟩
def upsOK (own : Int) (l : List Int) : Bool := decide (1 ≤ l.length ∧ l.length ≤ 8) && l.all (fun a => decide (1 ≤ a ∧ a ≤ 1000000) && decide (a ≠ own)) && nodupI l
def fwdOK (f : FwdC) : Bool :=
  questionOK f.q && decide (1 ≤ f.own ∧ f.own ≤ 1000000) && upsOK f.own f.ups && decide (0 ≤ f.at_ ∧ f.at_ < f.ups.length) && decide (0 ≤ f.tried ∧ f.tried ≤ 8) && decide (0 ≤ f.til ∧ f.til ≤ 10000005) && decide (0 ≤ f.id ∧ f.id ≤ 65535) &&
  !(f.done && f.dark) && (f.dark == decide (f.tried = 8)) && (if f.done then answerOK f.ans && decide (f.ans.kind ≠ 7) else decide (f.ans = ansNil))
theorem fwdOK_iff (f : FwdC) : fwdOK f = true ↔ questionOK f.q = true ∧ (1 ≤ f.own ∧ f.own ≤ 1000000) ∧ upsOK f.own f.ups = true ∧ (0 ≤ f.at_ ∧ f.at_ < f.ups.length) ∧ (0 ≤ f.tried ∧ f.tried ≤ 8) ∧ (0 ≤ f.til ∧ f.til ≤ 10000005) ∧ (0 ≤ f.id ∧ f.id ≤ 65535) ∧ ¬ (f.done = true ∧ f.dark = true) ∧ (f.dark = true ↔ f.tried = 8) ∧ (if f.done = true then answerOK f.ans = true ∧ f.ans.kind ≠ 7 else f.ans = ansNil) := by
  unfold fwdOK
  have e : (f.dark == decide (f.tried = 8)) = true ↔ (f.dark = true ↔ f.tried = 8) := by
    cases f.dark <;> simp
  have e2 : (if f.done = true then answerOK f.ans && decide (f.ans.kind ≠ 7) else decide (f.ans = ansNil)) = true ↔ (if f.done = true then answerOK f.ans = true ∧ f.ans.kind ≠ 7 else f.ans = ansNil) := by
    split <;> simp
  simp only [Bool.and_eq_true, decide_eq_true_eq, Bool.not_eq_true', e, e2, and_assoc]
  have e3 : (f.done && f.dark) = false ↔ ¬ (f.done = true ∧ f.dark = true) := by
    cases f.done <;> cases f.dark <;> simp
  simp only [e3]
theorem upsOK_iff (own : Int) (l : List Int) : upsOK own l = true ↔ (1 ≤ l.length ∧ l.length ≤ 8) ∧ (∀ a ∈ l, (1 ≤ a ∧ a ≤ 1000000) ∧ a ≠ own) ∧ l.Nodup := by
  unfold upsOK
  simp only [Bool.and_eq_true, decide_eq_true_eq, List.all_eq_true, nodupI_iff, and_assoc]
def upAt (f : FwdC) : Int := f.ups.getD f.at_.toNat 0
def queryOf (f : FwdC) : MsgC := ⟨1, f.id, f.own, upAt f, f.q, ansNil⟩
def startC (q : Question) (own : Int) (ups : List Int) (id now : Int) : FwdC := ⟨q, own, ups, 0, 0, now + 5, id, false, false, ansNil⟩
def isNow (now : Int) : Bool := decide (0 ≤ now ∧ now ≤ 10000000)
def beginC (q : Question) (own : Int) (ups : List Int) (id now : Int) : FwdC × MsgC × Int :=
  if !(isNow now && fwdOK (startC q own ups id now)) then (fwdNil, msgNil, 1) else (startC q own ups id now, queryOf (startC q own ups id now), 0)
def waitsC (f : FwdC) (now : Int) : Bool := !f.done && !f.dark && decide (now < f.til)
def takeC (f : FwdC) (m : MsgC) (now : Int) : FwdC × Bool × Int :=
  if !(fwdOK f && msgOK m && isNow now) then (fwdNil, false, 1) else
  if !(waitsC f now && matchOK (queryOf f) m) then (f, false, 0) else
  if m.ans.kind = 7 then ({ f with til := now }, true, 0) else ({ f with done := true, ans := m.ans }, true, 0)
/-- The next upstream resolver is asked. -/
def turnC (f : FwdC) (now : Int) : FwdC := { f with tried := f.tried + 1, at_ := (f.at_ + 1).tmod f.ups.length, id := (f.id + 1).tmod 65536, til := now + 5 }
def waitC (f : FwdC) (now : Int) : FwdC × List MsgC × Int :=
  if !(fwdOK f && isNow now) then (fwdNil, [], 1) else
  if f.done || f.dark || decide (now < f.til) then (f, [], 0) else
  if f.tried + 1 = 8 then ({ f with tried := f.tried + 1, dark := true }, [], 0) else (turnC f now, [queryOf (turnC f now)], 0)
def fewF (f : FwdC) : Bool := decide (f.ups.length ≤ 20) && fewM ⟨0, 0, 0, 0, f.q, f.ans⟩
theorem tmod_lt {x k : Int} (h : 0 ≤ x) (hk : 0 < k) : 0 ≤ x.tmod k ∧ x.tmod k < k := by
  rw [Int.tmod_eq_emod_of_nonneg h]
  exact ⟨Int.emod_nonneg _ (by omega), Int.emod_lt_of_pos _ hk⟩
/-! ### what stays valid -/
theorem fwd_dark {f : FwdC} (h : fwdOK f = true) (h1 : f.done = false) (h2 : f.tried + 1 = 8) : fwdOK { f with tried := f.tried + 1, dark := true } = true := by
  rw [fwdOK_iff] at *
  obtain ⟨a1, a2, a3, a4, a5, a6, a7, a8, a9, a10⟩ := h
  refine ⟨a1, a2, a3, a4, ⟨by show 0 ≤ f.tried + 1; omega, by show f.tried + 1 ≤ 8; omega⟩, a6, a7, ?_, ?_, a10⟩
  · show ¬ (f.done = true ∧ true = true)
    rw [h1]; simp
  · show true = true ↔ f.tried + 1 = 8
    simp [h2]
theorem fwd_turn {f : FwdC} {now : Int} (h : fwdOK f = true) (hn : isNow now = true) (h1 : f.done = false) (h3 : f.dark = false) (h2 : ¬ f.tried + 1 = 8) : fwdOK (turnC f now) = true := by
  unfold isNow at hn
  rw [decide_eq_true_iff] at hn
  rw [fwdOK_iff] at *
  obtain ⟨a1, a2, a3, a4, a5, a6, a7, a8, a9, a10⟩ := h
  have hl := ((upsOK_iff _ _).1 a3).1
  have b1 := tmod_lt (x := f.at_ + 1) (k := f.ups.length) (by omega) (by omega)
  have b2 := tmod_lt (x := f.id + 1) (k := 65536) (by omega) (by omega)
  have ht : f.tried ≠ 8 := fun e => by
    have := a9.2 e
    rw [h3] at this; cases this
  refine ⟨a1, a2, a3, b1, ⟨by show 0 ≤ f.tried + 1; omega, by show f.tried + 1 ≤ 8; omega⟩, ⟨by show 0 ≤ now + 5; omega, by show now + 5 ≤ 10000005; omega⟩, ⟨b2.1, by show (f.id + 1).tmod 65536 ≤ 65535; omega⟩, a8, ?_, a10⟩
  show f.dark = true ↔ f.tried + 1 = 8
  rw [h3]
  simp [h2]
theorem fwd_until {f : FwdC} {now : Int} (h : fwdOK f = true) (hn : isNow now = true) : fwdOK { f with til := now } = true := by
  unfold isNow at hn
  rw [decide_eq_true_iff] at hn
  rw [fwdOK_iff] at *
  obtain ⟨a1, a2, a3, a4, a5, a6, a7, a8, a9, a10⟩ := h
  exact ⟨a1, a2, a3, a4, a5, ⟨hn.1, by show now ≤ 10000005; omega⟩, a7, a8, a9, a10⟩
theorem fwd_done {f : FwdC} {a : AnswerC} (h : fwdOK f = true) (h1 : f.dark = false) (ha : answerOK a = true) (hk : a.kind ≠ 7) : fwdOK { f with done := true, ans := a } = true := by
  rw [fwdOK_iff] at *
  obtain ⟨a1, a2, a3, a4, a5, a6, a7, a8, a9, a10⟩ := h
  refine ⟨a1, a2, a3, a4, a5, a6, a7, ?_, a9, ?_⟩
  · show ¬ (true = true ∧ f.dark = true)
    rw [h1]; simp
  · show (if true = true then answerOK a = true ∧ a.kind ≠ 7 else a = ansNil)
    rw [if_pos rfl]; exact ⟨ha, hk⟩
end Go.Proofs.YtohfliekhbpopaaDoor
/-! ### rounds -/
namespace Go.Proofs.YtohfliekhbpopaaDoor
set_option linter.unusedVariables false
set_option linter.unusedSimpArgs false
open Go
/-- After k rounds, each one of step ticks. -/
def roundC (q : Question) (own : Int) (ups : List Int) (id now step : Int) (k : Nat) : FwdC := ⟨q, own, ups, ((k % ups.length : Nat) : Int), k, now + k * step + 5, (id + k) % 65536, false, false, ansNil⟩
theorem round_zero {q : Question} {own : Int} {ups : List Int} {id now step : Int} (hid : 0 ≤ id ∧ id ≤ 65535) : startC q own ups id now = roundC q own ups id now step 0 := by
  unfold startC roundC
  have e : (id + ((0 : Nat) : Int)) % 65536 = id := by omega
  have e2 : now + ((0 : Nat) : Int) * step + 5 = now + 5 := by simp
  rw [e, e2, Nat.zero_mod]; rfl
theorem round_ok {q : Question} {own : Int} {ups : List Int} {id now step : Int} {k : Nat} (h : fwdOK (startC q own ups id now) = true) (hn : 0 ≤ now) (hs : 0 ≤ step) (hk : k < 8) (ht : now + k * step ≤ 10000000) : fwdOK (roundC q own ups id now step k) = true := by
  rw [fwdOK_iff] at *
  obtain ⟨a1, a2, a3, a4, a5, a6, a7, a8, a9, a10⟩ := h
  have hl := ((upsOK_iff _ _).1 a3).1
  have hl' : 1 ≤ ups.length := hl.1
  have hm := Nat.mod_lt k (show 0 < ups.length by omega)
  have hks : 0 ≤ (k : Int) * step := Int.mul_nonneg (by omega) hs
  refine ⟨a1, a2, a3, ⟨by show 0 ≤ ((k % ups.length : Nat) : Int); omega, by show ((k % ups.length : Nat) : Int) < ups.length; omega⟩, ⟨by show 0 ≤ (k : Int); omega, by show (k : Int) ≤ 8; omega⟩, ⟨by show 0 ≤ now + k * step + 5; omega, by show now + k * step + 5 ≤ 10000005; omega⟩, ⟨by show 0 ≤ (id + k) % 65536; omega, by show (id + k) % 65536 ≤ 65535; omega⟩, a8, ?_, a10⟩
  show false = true ↔ (k : Int) = 8
  constructor
  · intro h; cases h
  · intro h; omega
theorem round_turn {q : Question} {own : Int} {ups : List Int} {id now step : Int} {k : Nat} (hl : 1 ≤ ups.length) : turnC (roundC q own ups id now step k) (now + (k + 1 : Nat) * step) = roundC q own ups id now step (k + 1) := by
  unfold turnC roundC
  have e1 : (((k % ups.length : Nat) : Int) + 1).tmod (ups.length : Int) = (((k + 1) % ups.length : Nat) : Int) := by
    rw [Int.tmod_eq_emod_of_nonneg (by omega)]
    have : (((k % ups.length : Nat) : Int) + 1) % (ups.length : Int) = (((k % ups.length + 1) % ups.length : Nat) : Int) := (Int.natCast_emod (k % ups.length + 1) ups.length).symm
    rw [this, Nat.mod_add_mod]
  have e2 : ((id + k) % 65536 + 1).tmod 65536 = (id + (k + 1 : Nat)) % 65536 := by
    rw [Int.tmod_eq_emod_of_nonneg (by omega)]
    omega
  have e3 : (k : Int) + 1 = (k + 1 : Nat) := by omega
  rw [show ({ q := q, own := own, ups := ups, at_ := ((k % ups.length : Nat) : Int), tried := (k : Int), til := now + k * step + 5, id := (id + k) % 65536, done := false, dark := false, ans := ansNil } : FwdC).ups = ups from rfl]
  simp only [e1, e2, e3]
theorem round_wait {q : Question} {own : Int} {ups : List Int} {id now step : Int} {k : Nat} (h : fwdOK (startC q own ups id now) = true) (hn : 0 ≤ now) (hs : 5 ≤ step) (hk : k < 8) (ht : now + (k + 1 : Nat) * step ≤ 10000000) : waitC (roundC q own ups id now step k) (now + (k + 1 : Nat) * step) =
    if k + 1 = 8 then ({ roundC q own ups id now step k with tried := (k : Int) + 1, dark := true }, [], 0) else (roundC q own ups id now step (k + 1), [queryOf (roundC q own ups id now step (k + 1))], 0) := by
  have e1 : ((k + 1 : Nat) : Int) * step = k * step + step := by
    rw [show ((k + 1 : Nat) : Int) = (k : Int) + 1 by omega, Int.add_mul, Int.one_mul]
  have hks : 0 ≤ (k : Int) * step := Int.mul_nonneg (by omega) (by omega)
  have hok := round_ok (step := step) h hn (by omega) hk (by omega)
  have hl : 1 ≤ ups.length := ((upsOK_iff _ _).1 ((fwdOK_iff _).1 h).2.2.1).1.1
  have hnow : isNow (now + (k + 1 : Nat) * step) = true := by
    unfold isNow
    rw [decide_eq_true_iff]
    omega
  unfold waitC
  rw [hok, hnow, if_neg (by decide)]
  rw [if_neg (by
    show ¬ ((false || false || decide (now + (k + 1 : Nat) * step < now + k * step + 5)) = true)
    simp only [Bool.false_or, decide_eq_true_eq]
    omega)]
  by_cases h8 : k + 1 = 8
  · rw [if_pos (show (roundC q own ups id now step k).tried + 1 = 8 by show (k : Int) + 1 = 8; omega), if_pos h8]
    rfl
  · rw [if_neg (show ¬ (roundC q own ups id now step k).tried + 1 = 8 by show ¬ (k : Int) + 1 = 8; omega), if_neg h8, round_turn hl]
theorem round_up {q : Question} {own : Int} {ups : List Int} {id now step : Int} {k : Nat} (hl : 1 ≤ ups.length) : upAt (roundC q own ups id now step k) = ups[k % ups.length]'(Nat.mod_lt _ (by omega)) := by
  unfold upAt roundC
  simp only [Int.toNat_natCast]
  rw [List.getD_eq_getElem?_getD, List.getElem?_eq_getElem (Nat.mod_lt _ (by omega))]; rfl
theorem wait_dark {f : FwdC} {now : Int} (h : fwdOK f = true) (hn : isNow now = true) (hd : f.done = true ∨ f.dark = true) : waitC f now = (f, [], 0) := by
  unfold waitC
  rw [h, hn, if_neg (by decide), if_pos]
  rcases hd with hd | hd <;> simp [hd]
theorem take_dark {f : FwdC} {m : MsgC} {now : Int} (h : fwdOK f = true) (hm : msgOK m = true) (hn : isNow now = true) (hd : f.done = true ∨ f.dark = true) : takeC f m now = (f, false, 0) := by
  unfold takeC waitsC
  rw [h, hm, hn, if_neg (by decide), if_pos]
  rcases hd with hd | hd <;> simp [hd]
/-! ### queries and answers to them -/
theorem query_ok {f : FwdC} (h : fwdOK f = true) : msgOK (queryOf f) = true := by
  rw [fwdOK_iff] at h
  obtain ⟨a1, a2, a3, a4, a5, a6, a7, _⟩ := h
  have hu := (upsOK_iff _ _).1 a3
  have hlt : f.at_.toNat < f.ups.length := by omega
  have hm : upAt f ∈ f.ups := by
    unfold upAt
    rw [List.getD_eq_getElem?_getD, List.getElem?_eq_getElem hlt]
    exact List.getElem_mem hlt
  have hr := (hu.2.1 _ hm).1
  rw [msgOK_ands]
  exact ⟨a7, a2, hr, a1, .inl ⟨rfl, rfl, rfl, rfl⟩⟩
theorem reply_match {f : FwdC} {a : AnswerC} {addr : Int} (h : fwdOK f = true) (ha : answerOK a = true) (hr : 1 ≤ addr ∧ addr ≤ 1000000) : matchOK (queryOf f) ⟨2, f.id, addr, f.own, f.q, a⟩ = decide (upAt f = addr) := by
  have hq := query_ok h
  have hf := (fwdOK_iff f).1 h
  have hm : msgOK ⟨2, f.id, addr, f.own, f.q, a⟩ = true := by
    rw [msgOK_ands]
    exact ⟨hf.2.2.2.2.2.2.1, hr, hf.2.1, hf.1, .inr ⟨rfl, ha⟩⟩
  unfold matchOK
  rw [hq, hm]
  unfold queryOf
  simp
end Go.Proofs.YtohfliekhbpopaaDoor
