/- Loops, round by round. -/
import Derived.Test.YtnlcenlamkfmnaaPvRows3
import Derived.LoopN
set_option linter.unusedSimpArgs false
set_option linter.unusedVariables false
namespace Go.Proofs.Ytnlcenlamkfmnaa
open Go.RowKit
section
variable {G : Pg} {N : Nat} {Γ : Fr} {st : PSt} {K : Exit → PSt → Prop} {c : Code}
structure PRounds (G : Pg) (N : Nat) (Γ : Fr) (c : Code) (K : Exit → PSt → Prop) (n : Nat) (st : PSt) : Prop where
  go : ∀ ρ I a w, Rel N Γ st ρ I a w → Code.rounds G.P c (Qf N Γ K) n a w
def KroundF (G : Pg) (N : Nat) (Γ : Fr) (c : Code) (K : Exit → PSt → Prop) (n : Nat) : Exit → PSt → Prop
  | .normal, st => ∃ st', Can N Γ st st' ∧ PRounds G N Γ c K n st'
  | e, st => K e st
structure Kround (G : Pg) (N : Nat) (Γ : Fr) (c : Code) (K : Exit → PSt → Prop) (n : Nat) (e : Exit) (st : PSt) : Prop where
  go : KroundF G N Γ c K n e st
theorem kround_ret {n : Nat} (h : K .ret st) : Kround G N Γ c K n .ret st := ⟨h⟩
theorem kround_exit {n id : Nat} (h : K (.exit id) st) : Kround G N Γ c K n (.exit id) st := ⟨h⟩
theorem pround {n : Nat} (h : PWp G N Γ c st (Kround G N Γ c K n)) : PRounds G N Γ c K (n + 1) st := .mk fun ρ I a w hr => by
  refine wp_mono (h.go ρ I a w hr) fun e a w ⟨h1, st, ρ, I, h2, h3⟩ => ?_
  cases e with
  | normal =>
    obtain ⟨st', hc, hk⟩ := h2.go
    obtain ⟨ρ', I', hr'⟩ := hc ρ I a w h3
    exact hk.go ρ' I' a w hr'
  | _ => exact ⟨h1, st, ρ, I, h2.go, h3⟩
theorem kround_next {n : Nat} (h : PWp G N Γ c st (Kround G N Γ c K n)) : Kround G N Γ c K (n + 1) .normal st := ⟨st, Can.refl, pround h⟩
theorem kround_can {n : Nat} {st' : PSt} (hc : Can N Γ st st') (h : PWp G N Γ c st' (Kround G N Γ c K n)) : Kround G N Γ c K (n + 1) .normal st := ⟨st', hc, pround h⟩
theorem ploopN (n : Nat) (h : PWp G N Γ c st (Kround G N Γ c K n)) : PWp G N Γ (.loop c) st K := .mk fun ρ I a w hr => wp_loop_rounds (n + 1) ((pround h).go ρ I a w hr)
end

section
variable {G : Pg2} {N : Nat} {Γ : Fr} {st : PSt} {ops : Array Oper} {o : Oper} {d : Nat}
/-- a call with rows in a region that draws, under a guard that holds -/
theorem pst_rowsg {K' : PSt → Prop} {j : Nat} {want : Bool} {f : FuncId} {x : Operand} {args : Array Operand} {tys : Array TypeId} {n : Nat} {c : Nat → PV} {rows : List Row} {qs : List PV} {post : PV → List Row → Prop} (sel : List Nat) (hg : o.guard = some (j, want)) (hdst : o.dst = some d) (hN : Nat.blt d N = true) (hgv : gval ops st j want = some true)
    (ho : o.op = .call ⟨.value x, args, tys⟩) (hx : str (st.ev x) = .clo f n c) (hxp : strP (st.ev x) True) (hd : nodupB sel = true) (hs : SelOk st.mem sel sel rows) (hc : RowsC G.P f rows qs post) (ha : PEqL ((args.toList.map st.ev ++ capL n c 0).map (PV.ren (inv sel 0))) qs)
    (h : ∀ r rows', post r rows' → ∃ m r', putK (tau sel (lenK st.mem 0)) sel rows' st.mem some = some m ∧ force (r.ren (tau sel (lenK st.mem 0))) (fun p => some (p, True)) = some (r', True) ∧ K' (PSt.put ⟨st.tm, m⟩ d (.opt true r'))) : PStep G N Γ ops o st sel false K' := .mk fun ρ I a w hrel Q => by
  have hw := gval_sound hrel hg hgv
  rw [if_pos hw]
  have hx0 := (str_rel (ev_rel hrel x) hxp).1
  rw [hx] at hx0
  refine rows_core (G := G.toPg) sel hrel ho hx0 hd hs hc ha ?_
  intro v r rows' ρ2 I' w' hpost hr hch hv
  obtain ⟨m, r', e1, e2, hk⟩ := h r rows' hpost
  rw [putK_eq, lenK_eq, Nat.zero_add] at e1
  rw [force_eq, lenK_eq, Nat.zero_add] at e2
  simp only [Option.some.injEq, Prod.mk.injEq, and_true] at e1 e2
  rw [e1] at hr hv hch
  rw [e2] at hv
  rw [hdst]
  exact ⟨_, ρ2, I', hk, hr.put (by rwa [Nat.blt_eq] at hN) ⟨fun _ => hv, by simp⟩, hch.size, hch.same, hch.loc, hch.imm, hch.live, hch.own⟩
end
end Go.Proofs.Ytnlcenlamkfmnaa
