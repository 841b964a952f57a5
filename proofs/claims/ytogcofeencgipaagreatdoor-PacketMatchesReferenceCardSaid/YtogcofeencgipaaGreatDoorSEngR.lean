/- The engine: what a reader of bytes needs. -/
import Derived.Test.YtogcofeencgipaaGreatDoorSEngX
import Derived.Laws.IdiomStrings
namespace Go.Proofs.YtogcofeencgipaaGreatDoor
set_option linter.unusedVariables false
set_option linter.unusedSimpArgs false
open Go Go.RowKit
set_option linter.unusedSectionVars false
section
variable {P : Program} {n : FK} {S : World → Prop} {env : List (Nat × Value)} {w0 : World} {H0 H : Hp} {L : List Loc}
theorem V.orN {t u : TypeId} {x y : Operand} {i j m : Nat} (hx : ev env x = some (.int .u64 i)) (hy : ev env y = some (.int .u64 j)) (hi : i < 18446744073709551616) (hj : j < 18446744073709551616) (hm : Nat.lor i j = m) : V P n S env (.binOp .or t x y u) (.int .u64 (m : Int)) :=
  ⟨fun o A w ho hf _ => by
    subst hm
    have e1 : ((BitVec.ofInt 64 (i : Int)).toNat) = i := by rw [BitVec.toNat_ofInt]; omega
    have e2 : ((BitVec.ofInt 64 (j : Int)).toNat) = j := by rw [BitVec.toNat_ofInt]; omega
    have hlt : Nat.lor i j < 2 ^ 64 := Nat.or_lt_two_pow hi hj
    have e3 : (BitVec.ofInt 64 (i : Int) ||| BitVec.ofInt 64 (j : Int)).toNat = Nat.lor i j := by
      rw [BitVec.toNat_or, e1, e2]; rfl
    have e4 : IntKind.u64.wrap ((Nat.lor i j : Nat) : Int) = ((Nat.lor i j : Nat) : Int) := IntWalk.u64_in _ (by omega)
    unfold execOp; rw [ho]
    simp only [hf.ev hx, hf.ev hy, binOp, eqGuard, Op.intBits]
    simp [IntKind.bits, -BitVec.toNat_or]
    show IntKind.u64.wrap ((BitVec.toNat (w := 64) (BitVec.ofInt 64 (i : Int) ||| BitVec.ofInt 64 (j : Int)) : Nat) : Int) = _
    rw [e3]
    exact e4⟩
/-- 'string(b)'. -/
theorem V.bytesStr [Tys P] {s t e : TypeId} {x : Operand} {q : Slc UInt8} {ks ke kt : TyK} (hks : tyk P s = some ks) (hds : ks.desc = .slice e) (hke : tyk P e = some ke) (hde : ke.desc = .int .u8) (hkt : tyk P t = some kt) (hdt : kt.desc = .str) (hx : ev env x = some q.v) (hq : q.Good H) : V P n (St w0 H0 H L) env (.convert s t x) (strV q.els) :=
  ⟨fun o a w ho hf hs => by
    obtain ⟨d1, hu1, hf1⟩ := (tyk_ok hks).und
    rw [hds] at hf1
    simp only [TyD.fits] at hf1
    subst hf1
    obtain ⟨d2, hu2, hf2⟩ := (tyk_ok hke).und
    rw [hde] at hf2
    simp only [TyD.fits] at hf2
    subst hf2
    obtain ⟨d3, hu3, hf3⟩ := (tyk_ok hkt).und
    rw [hdt] at hf3
    simp only [TyD.fits] at hf3
    subst hf3
    have hlen := hq.len
    have hrun : (convert s t q.v).run P w = .ok (strV q.els) w := by
      cases hA : q.A with
      | none =>
        have hl0 : q.len = 0 := by
          rcases Nat.eq_zero_or_pos q.len with h | h
          · exact h
          · have := hq.at_ h; rw [hA] at this; cases this
        have hels : q.els = [] := List.eq_nil_of_length_eq_zero (by rw [hlen]; exact hl0)
        have hv : q.v = .slice none 0 q.cap := by unfold Slc.v; rw [hA, hl0]
        rw [hv, hels, run_convert_bytes_string w s t e none 0 q.cap hu1 hu2 hu3]
        simp [Conv.bytesToString]
        rfl
      | some ad =>
        have hv : q.v = .slice (some ad) q.els.length q.cap := by unfold Slc.v; rw [hA, hlen]
        rw [hv]
        refine run_convert_bytes_back w s t e ad q.cap q.els hu1 hu2 hu3 fun j hj => ?_
        have hpos : 0 < q.len := by omega
        have h1 := hq.at_ hpos
        rw [hA] at h1
        have h2 := hq.all j (.int .u8 (q.els[j].toNat : Int)) (by
          have h3 := encs_get q.els j 0 q.els[j] (.int .u8 (q.els[j].toNat : Int)) (List.getElem?_eq_getElem hj) rfl
          have e1 : j * Enc.size UInt8 + 0 = j := by show j * 1 + 0 = j; omega
          rwa [e1] at h3)
        rw [Option.some.inj h1, Addr.add_mid]
        exact hs.sat.cell h2
    unfold execOp; rw [ho]
    simp only [hf.ev hx, Sem.run_bind, hrun]
    rfl⟩
theorem V.iface [Tys P] {t : TypeId} {x : Operand} {v : Value} {k : TyK} {fs : List (Nat × Nat × TypeId)} (hk : tyk P t = some k) (hd : k.desc = .struct fs) (hx : ev env x = some v) : V P n S env (.makeInterface t x) (.iface t v) :=
  ⟨fun o a w ho hf _ => by
    obtain ⟨d, hu, hf'⟩ := (tyk_ok hk).und
    rw [hd] at hf'
    obtain ⟨fields, rfl, _⟩ := hf'
    unfold execOp; rw [ho]; simp [hf.ev hx, Instr.makeInterface, run_underlying hu]⟩
/-- A call of a bound method, or the like, that writes into its caller's. -/
theorem X.callB (us : List Value) {G : Type} {φ : G → Prop} {v : G → Value} {HH : G → Hp} {LL : G → List Loc} {d : Nat} {x : Operand} {args : Array Operand} {tys : Array TypeId} {ty : TypeId} {pos : String} {after : Array Edge} {g : Option (Nat × Bool)} {f : FuncId} {first cap : Array Value} {vs : List Value} (hn : Nat.blt d n.n = true)
    (hx : ev env x = some (.func (.func f) first cap)) (hargs : evs env args.toList = some vs) (hus : first ++ vs.toArray ++ cap = us.toArray)
    (hcall : ∀ (args : Array Value) (w : World), (callFunc f args).run P w = .ok (.enter f args) w)
    (hc : ∀ w, St w0 H0 H L w → CallsIn (FW none) 0 P f us.toArray w (fun e w' => ∃ g, φ g ∧ e = .returned (v g) ∧ St w0 H0 (HH g) (LL g) w')) :
    X P n w0 H0 env H L ⟨some d, .call { callee := .value x, args := args, argTypes := tys }, ty, pos, after, g⟩ false φ (fun g => (d, v g) :: env) HH LL :=
  X.callS hn hx hargs hcall (by rw [hus]; exact hc)
/-- A call that may panic, by its arguments as a list. -/
theorem TL.callPB {Q : Exit → Act → World → Prop} {ops rest : List Oper} {chain : List PanicEntry} (us : List Value) {G G' : Type} {φ : G → Prop} {ψ : G' → Prop} {v : G → Value} {HH : G → Hp} {LL : G → List Loc} {HP : G' → Hp} {LP : G' → List Loc} {d : Nat} {x : Operand} {args : Array Operand} {tys : Array TypeId} {ty : TypeId} {pos : String} {after : Array Edge} {g : Option (Nat × Bool)} {f : FuncId} {first cap : Array Value} {vs : List Value} (hn : Nat.blt d n.n = true)
    (hw : want ops env ⟨some d, .call { callee := .value x, args := args, argTypes := tys }, ty, pos, after, g⟩ = some true) (hx : ev env x = some (.func (.func f) first cap)) (hargs : evs env args.toList = some vs) (hus : first ++ vs.toArray ++ cap = us.toArray)
    (hcall : ∀ (args : Array Value) (w : World), (callFunc f args).run P w = .ok (.enter f args) w)
    (hc : ∀ w, St w0 H0 H L w → CallsIn (FW none) 0 P f us.toArray w (fun e w' => (∃ g, φ g ∧ e = .returned (v g) ∧ St w0 H0 (HH g) (LL g) w') ∨ (∃ g, ψ g ∧ e = .panicked chain ∧ St w0 H0 (HP g) (LP g) w')))
    (hp : ∀ g, ψ g → N n w0 H0 Q (.panic chain) env (HP g) (LP g)) (h : ∀ g, φ g → TL P n w0 H0 ops Q rest ((d, v g) :: env) (HH g) (LL g)) :
    TL P n w0 H0 ops Q (⟨some d, .call { callee := .value x, args := args, argTypes := tys }, ty, pos, after, g⟩ :: rest) env H L :=
  TL.callP hn hw hx hargs hcall (by rw [hus]; exact hc) hp h
/-- .. the same in a region that draws its order. -/
theorem GS.callPB {K : KZ} {HS : Hp} {LS : List Loc} {ok : Bool} {fuel k j : Nat} {ex : List Nat} {ops : List Oper} {chain : List PanicEntry} (us : List Value) {G G' : Type} {φ : G → Prop} {ψ : G' → Prop} {v : G → Value} {HH : G → Hp} {LL : G → List Loc} {HP : G' → Hp} {LP : G' → List Loc} {d : Nat} {x : Operand} {args : Array Operand} {tys : Array TypeId} {ty : TypeId} {pos : String} {after : Array Edge} {g : Option (Nat × Bool)} {f : FuncId} {first cap : Array Value} {vs : List Value} (hi : ops[j]? = some ⟨some d, .call { callee := .value x, args := args, argTypes := tys }, ty, pos, after, g⟩) (hn : Nat.blt d n.n = true)
    (hw : want ops env ⟨some d, .call { callee := .value x, args := args, argTypes := tys }, ty, pos, after, g⟩ = some true) (hx : ev env x = some (.func (.func f) first cap)) (hargs : evs env args.toList = some vs) (hus : first ++ vs.toArray ++ cap = us.toArray)
    (hcall : ∀ (args : Array Value) (w : World), (callFunc f args).run P w = .ok (.enter f args) w)
    (hc : ∀ w, St w0 H0 H L w → CallsIn (FW none) 0 P f us.toArray w (fun e w' => (∃ g, φ g ∧ e = .returned (v g) ∧ St w0 H0 (HH g) (LL g) w') ∨ (∃ g, ψ g ∧ e = .panicked chain ∧ St w0 H0 (HP g) (LP g) w')))
    (hH : ∀ g, φ g → HS.le (HH g)) (h0 : H0.le HS) (hL : ∀ g, List.Sublist LS (LL g))
    (hp : ∀ g, ψ g → N n w0 H0 (fun _ a w => K.z chain a w) (.panic chain) [] (HP g) (LP g)) (h : ∀ g, φ g → GT P n w0 H0 ops K HS LS true fuel k (j :: ex) ((d, v g) :: env) (HH g) (LL g)) : GS P n w0 H0 ops K HS LS ok fuel k ex env H L j :=
  ⟨fun hcl a w hf hs hk => by
    unfold wpOp
    have hi' : ops.toArray[j]? = some ⟨some d, .call { callee := .value x, args := args, argTypes := tys }, ty, pos, after, g⟩ := by simpa using hi
    simp only [hi']
    rw [want_spec hf hw, if_pos rfl]
    refine .inl ?_
    unfold Oper.wp
    rw [run_call rfl (hf.ev hx) (hf.evs hargs) hcall, hus]
    refine Calls.mono (callsFW' (hc w hs)) fun e w' hcase => ?_
    rcases hcase with ⟨g, hg, he, hst⟩ | ⟨g, hg, he, hst⟩
    · subst he
      have hk' : St w0 H0 HS LS w' := (hst.sub (hL g)).lessH h0 (hH g hg)
      exact ⟨fun i _ _ _ _ => hk', (h g hg).out hcl _ _ (hf.put hn (v g)) hst fun _ => hk'⟩
    · subst he
      exact .inr ⟨chain, rfl, fun t ht => (hp g hg).out _ w' ⟨hf.defers, by show t.size = _; rw [ht, hf.size], fun t v h => by cases h⟩ hst⟩⟩
/-- A write, where more is known of the heap than what is read asks. -/
theorem GS.effL {K : KZ} {HS : Hp} {LS : List Loc} {ok : Bool} {fuel k : Nat} {ex : List Nat} {ops : List Oper} {j : Nat} {o : Oper} {gr : Bool} {G' : Type} {φ : G' → Prop} {E : G' → List (Nat × Value)} {HH : G' → Hp} {LL : G' → List Loc} (hi : ops[j]? = some o) (hw : want ops env o = some true) (hx : X P n w0 H0 env H L o gr φ E HH LL) (hH : ∀ g, HS.le (HH g)) (h0 : H0.le HS) (hL : ∀ g, List.Sublist LS (LL g))
    (h : ∀ g, φ g → GT P n w0 H0 ops K HS LS true fuel k (j :: ex) (E g) (HH g) (LL g)) : GS P n w0 H0 ops K HS LS ok fuel k ex env H L j :=
  ⟨fun hcl a w hf hs hk => by
    unfold wpOp
    have hi' : ops.toArray[j]? = some o := by simpa using hi
    simp only [hi']
    rw [want_spec hf hw, if_pos rfl]
    refine .inl (hx.out a w hf hs _ _ fun g a' w' hg hb hf' hs' => ?_)
    have hk' : St w0 H0 HS LS w' := (hs'.sub (hL g)).lessH h0 (hH g)
    exact ⟨fun i _ _ _ _ => hk', (h g hg).out hcl a' w' hf' hs' fun _ => hk'⟩⟩
theorem TL.dropHead {Q : Exit → Act → World → Prop} {ops rest : List Oper} {e : Loc} (h : TL P n w0 H0 ops Q rest env H L) : TL P n w0 H0 ops Q rest env H (e :: L) := ⟨fun a w hf hs => h.out a w hf (hs.sub (List.sublist_cons_self _ _))⟩
/-- One deferred closure: it recovers. -/
theorem N.panic2D {m : Nat} {ro : Option Nat} {fn : Func} {R : Ending → World → Prop} {r s : ResultVar} {v y : Value} {f : FuncId} {cap : Array Value} {chain : List PanicEntry} {L' : List Loc} (hcall : ∀ (args : Array Value) (w : World), (callFunc f args).run P w = .ok (.enter f args) w)
    (hrec : ∀ w, St w0 H0 H L w → CallsDIn (FW none) 0 P f cap (.panicking chain) w (fun e u' w' => (∃ x, e = .returned x) ∧ settle u' = .returning ∧ St w0 H0 H L' w')) (hr : fn.results = #[r, s]) (h1 : RV P ⟨m, [⟨.fn (.func f) cap, #[]⟩], ro⟩ w0 H0 env H L' r v) (h2 : RV P ⟨m, [⟨.fn (.func f) cap, #[]⟩], ro⟩ w0 H0 env H L' s y) (h : ∀ w, St w0 H0 H L' w → R (.returned (.tuple #[v, y])) w) :
    N ⟨m, [⟨.fn (.func f) cap, #[]⟩], ro⟩ w0 H0 (bodyPostDIn (FW none) 0 P fn R) (.panic chain) env H L :=
  ⟨fun a w hf hs => by
    show LeavesIn (FW none) 0 P fn a.tmps R a.defers (.panicking chain) w
    rw [hf.defers]
    refine leavesIn_cons (f := f) (args := cap) (by simp) (fun h => by simp [FW, Fence.wide] at h) (by simp [invoke, hcall]) (fun _ _ => trivial) ?_
    refine (hrec w hs).mono ?_
    rintro e u' w' ⟨⟨x, rfl⟩, hset, hst⟩
    show LeavesIn (FW none) 0 P fn a.tmps R [] (settle u') w'
    rw [hset]
    refine ⟨.tuple #[v, y], ?_, h _ hst⟩
    have h3 := h1 a w' hf hst
    have h4 := h2 a w' hf hst
    rw [results_eq, hr]
    simp [h3, h4]⟩
end
end Go.Proofs.YtogcofeencgipaaGreatDoor
