/- Calls of functions of values whose results are known; small words. -/
import Derived.Test.YtnlcenlamkfmnaaPvDraw
set_option linter.unusedSimpArgs false
set_option linter.unusedVariables false
namespace Go.Proofs.Ytnlcenlamkfmnaa
open Go.RowKit

abbrev vi (n : Int) : PV := .val (.int .i64 n)
abbrev vu (n : Int) : PV := .val (.int .u64 n)
abbrev vb (b : Bool) : PV := .val (.bool b)
abbrev vs (s : ByteArray) : PV := .val (.string s)
theorem eqI {k : IntKind} {a b : Int} (h : a = b) : PV.val (.int k a) = PV.val (.int k b) := by rw [h]
theorem eqB {a b : Bool} (h : a = b) : PV.val (.bool a) = PV.val (.bool b) := by rw [h]

def allB : Nat → (Nat → Bool) → Bool
  | 0, _ => true
  | n + 1, f => allB n f && f n
theorem allB_spec : ∀ (n : Nat) (f : Nat → Bool), allB n f = true → ∀ i, i < n → f i = true
  | 0, _, _, i, h => by omega
  | n + 1, f, h, i, hi => by
    simp only [allB, Bool.and_eq_true] at h
    by_cases e : i = n
    · subst e; exact h.2
    · exact allB_spec n f h.1 i (by omega)
def clB : PV → Bool
  | .junk => true
  | .val _ => true
  | .agg n f => allB n fun i => clB (f i)
  | .tup n f => allB n fun i => clB (f i)
  | .vsl _ _ _ => true
  | .vptr _ _ _ _ _ => true
  | .opt _ p => clB p
  | .clo _ n c => allB n fun i => clB (c i)
  | _ => false
theorem clB_spec : ∀ p : PV, clB p = true → Cl p := by
  intro p
  induction p with
  | agg n f ih => intro h i hi; exact ih i (allB_spec n _ h i hi)
  | tup n f ih => intro h i hi; exact ih i (allB_spec n _ h i hi)
  | clo g n f ih => intro h i hi; exact ih i (allB_spec n _ h i hi)
  | opt b p ih => intro h; exact ih h
  | ptr => intro h; cases h
  | lsl => intro h; cases h
  | mref => intro h; cases h
  | _ => intro _; trivial
def scB : PV → Bool
  | .junk => true
  | .val _ => true
  | .agg n f => allB n fun i => scB (f i)
  | .tup n f => allB n fun i => scB (f i)
  | .opt _ p => scB p
  | _ => false
theorem scB_spec : ∀ p : PV, scB p = true → Sc p := by
  intro p
  induction p with
  | agg n f ih => intro h i hi; exact ih i (allB_spec n _ h i hi)
  | tup n f ih => intro h i hi; exact ih i (allB_spec n _ h i hi)
  | opt b p ih => intro h; exact ih h
  | junk => intro _; trivial
  | val => intro _; trivial
  | _ => intro h; cases h
def clBL : List PV → Bool
  | [] => true
  | p :: l => clB p && clBL l
theorem args_cl {mem : List Row} {L : List Nat} : ∀ (ps : List PV), clBL ps = true → ArgsOk mem L ps ps
  | [], _ => trivial
  | p :: ps, h => by
    simp only [clBL, Bool.and_eq_true] at h
    exact ⟨argCl (clB_spec p h.1), args_cl ps h.2⟩
theorem kretv {tab : List TI} {res : List ResultVar} {post : PV → Prop} {st : PSt} {ps : List PV} {pre : Prop} (h1 : presl tab st res = some (ps, pre)) (h2 : pre) (h3 : clBL ps = true) (h4 : post (pack ps)) : Kret tab res post .ret st := kret [] h1 h2 (args_cl ps h3) h4
theorem kretvn {tab : List TI} {res : List ResultVar} {post : PV → Prop} {st : PSt} {ps : List PV} {pre : Prop} (h1 : presl tab st res = some (ps, pre)) (h2 : pre) (h3 : clBL ps = true) (h4 : post (pack ps)) : Kret tab res post .normal st := kretn [] h1 h2 (args_cl ps h3) h4
/-- the conditions of all values of a list -/
def strPL : List PV → Prop
  | [] => True
  | p :: l => strP p (strPL l)
theorem args_str {mem : List Row} {L : List Nat} : ∀ (ps : List PV), strPL ps → clBL (ps.map str) = true → ArgsOk mem L ps (ps.map str)
  | [], _, _ => trivial
  | p :: ps, h, hc => by
    simp only [List.map_cons, clBL, Bool.and_eq_true] at hc
    cases p with
    | opt g q => exact ⟨argOpt h.1 (argCl (clB_spec _ hc.1)), args_str ps h.2 hc.2⟩
    | _ => exact ⟨argCl (clB_spec _ hc.1), args_str ps h hc.2⟩

section
variable {G : Pg} {N : Nat} {Γ : Fr} {st : PSt} {K : Exit → PSt → Prop} {ops : Array Oper} {o : Oper} {rest : List Oper} {d : Nat} {f : FuncId} {x : Operand} {args : Array Operand} {tys : Array TypeId} {c : Nat → PV} {qs : List PV} {X : PV}
theorem pop_callv (hg : o.guard = none) (hd : o.dst = some d) (hN : Nat.blt d N = true) (ho : o.op = .call ⟨.value x, args, tys⟩) (hx : st.ev x = .clo f 0 c) (hc : PureC G.P f qs (fun r => r = X)) (hq : args.toList.map st.ev = qs) (hcl : clBL qs = true) (hs : scB X = true)
    (h : POps G N Γ ops rest (st.put d X) K) : POps G N Γ ops (o :: rest) st K :=
  pop_call [] hg hd hN ho hx hc (by subst hq; exact args_cl _ hcl) (fun r hr => by subst hr; exact ⟨scB_spec _ hs, h⟩)
theorem pop_callgv {j : Nat} {want g : Bool} (hg : o.guard = some (j, want)) (hd : o.dst = some d) (hN : Nat.blt d N = true) (hgv : gval ops st j want = some g) (ho : o.op = .call ⟨.value x, args, tys⟩) (hx : st.ev x = .clo f 0 c) (hc : g = true → PureC G.P f qs (fun r => r = X)) (hp : g = true → strPL (args.toList.map st.ev)) (hq : (args.toList.map st.ev).map str = qs) (hcl : clBL qs = true) (hs : scB X = true)
    (h : POps G N Γ ops rest (st.put d (.opt g X)) K) : POps G N Γ ops (o :: rest) st K :=
  pop_callg (post := fun r => r = X) [] hg hd hN hgv ho hx hc (fun e => by subst hq; exact args_str _ (hp e) hcl) (fun _ r hr => by subst hr; exact ⟨scB_spec _ hs, h⟩) (fun _ => ⟨X, h⟩)
end
section
variable {G : Pg2} {N : Nat} {Γ : Fr} {st : PSt} {K' : PSt → Prop} {ops : Array Oper} {o : Oper} {d : Nat} {f : FuncId} {x : Operand} {args : Array Operand} {tys : Array TypeId} {c : Nat → PV} {qs : List PV} {X : PV}
theorem pst_callv (hg : o.guard = none) (hd : o.dst = some d) (hN : Nat.blt d N = true) (ho : o.op = .call ⟨.value x, args, tys⟩) (hx : st.ev x = .clo f 0 c) (hc : PureC G.P f qs (fun r => r = X)) (hq : args.toList.map st.ev = qs) (hcl : clBL qs = true) (hs : scB X = true)
    (h : K' (st.put d X)) : PStep G N Γ ops o st [] true K' :=
  pst_call [] hg hd hN ho hx hc (by subst hq; exact args_cl _ hcl) (fun r hr => by subst hr; exact ⟨scB_spec _ hs, h⟩)
theorem pst_callgv {j : Nat} {want g : Bool} (hg : o.guard = some (j, want)) (hd : o.dst = some d) (hN : Nat.blt d N = true) (hgv : gval ops st j want = some g) (ho : o.op = .call ⟨.value x, args, tys⟩) (hx : st.ev x = .clo f 0 c) (hc : g = true → PureC G.P f qs (fun r => r = X)) (hp : g = true → strPL (args.toList.map st.ev)) (hq : (args.toList.map st.ev).map str = qs) (hcl : clBL qs = true) (hs : scB X = true)
    (h : K' (st.put d (.opt g X))) : PStep G N Γ ops o st [] true K' :=
  pst_callg (post := fun r => r = X) [] hg hd hN hgv ho hx hc (fun e => by subst hq; exact args_str _ (hp e) hcl) (fun _ r hr => by subst hr; exact ⟨scB_spec _ hs, h⟩) (fun _ => ⟨X, h⟩)
end
/-- side conditions of the older walks -/
theorem qgd {P : Prop} (h : P := by first | exact fun _ => trivial | exact fun h => ⟨h, trivial⟩ | exact fun h => ⟨h, h, trivial⟩ | exact fun _ => Nat.zero_lt_one | exact fun h => ⟨h, Nat.zero_lt_one⟩ | exact fun h => ⟨h, fun hb => by simp only [h, hb]; rfl⟩ | exact fun h => ⟨h, h, by omega, by omega⟩ | exact fun h => ⟨h, (show (_ : Nat) < _ from by first | omega | (simp only [iRow]; omega))⟩) : P := h
theorem qrd {P : Prop} (h : P := by first | exact Nat.zero_lt_one | exact pk_t | exact pk_f | exact (show (_ : Int) ≠ 0 from by omega) | (refine And.intro ?_ ?_ <;> omega) | exact (show (_ : Nat) < _ from by first | omega | (simp only [iRow]; omega))) : P := h
theorem qst {P : Prop} (h : P := by first | exact (show (_ : Nat) < _ from by first | omega | (simp only [iRow]; omega))) : P := h
theorem qtg {P : Prop} (h : P := by first | exact (fun _ => trivial) | exact (fun h => ⟨h, trivial⟩) | exact (fun h => ⟨h, h, trivial⟩) | exact (fun _ => Nat.zero_lt_one) | exact (fun h => ⟨h, Nat.zero_lt_one⟩)) : P := h
theorem qtk {P : Prop} (h : P := by first | exact trivial | exact Nat.zero_lt_one | exact pk_t | exact pk_f | assumption | omega | exact ⟨by omega, by omega⟩ | exact (Int.ne_of_gt (by omega))) : P := h
end Go.Proofs.Ytnlcenlamkfmnaa
