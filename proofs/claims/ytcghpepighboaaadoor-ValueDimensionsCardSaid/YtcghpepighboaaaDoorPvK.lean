/- States of a schedule renumbered. -/
import Derived.Test.YtcghpepighboaaaDoorX21w
set_option linter.unusedSimpArgs false
set_option linter.unusedVariables false
set_option maxRecDepth 100000
namespace Go.Proofs.YtcghpepighboaaaDoor
section
variable {N : Nat} {Γ : Fr} {st : PSt} {ρ : Nat → Loc} {I : Nat → Prop} {a : Act} {w : World}
theorem rel_selv (sel : List Nat) {tm : List (Nat × PV)} {rows : List Row} (hk : Γ.k0 ≤ sel.length ∧ ∀ i, i < Γ.k0 → sel[i]? = some i) (hd : nodupB sel = true) (hs : SelV st.mem sel sel rows) (ht : TmOk st sel tm) (h : Rel N Γ st ρ I a w) : Rel N Γ ⟨tm, rows⟩ (sub sel ρ) I a w := by
  have hnd := nodupB_ok sel hd
  obtain ⟨hlen, hget⟩ := SelV.get sel rows hs
  have slot : ∀ (tm : List (Nat × PV)), TmOk st sel tm → ∀ t, VRel rows.length (sub sel ρ) I w (look t tm) (a.tmps.getD t undef) := by
    intro tm
    induction tm with
    | nil => intro _ t; trivial
    | cons x tm ih =>
      obtain ⟨s, p⟩ := x
      intro hx t
      simp only [look]
      cases hb : Nat.beq t s
      · exact ih hx.2 t
      · obtain rfl : t = s := Nat.eq_of_beq_eq_true hb
        exact hx.1 _ _ _ _ _ (VRel.ren (inv_ok hlen) _ _ (h.slot t))
  refine ⟨⟨h.fr.m.selv hs hnd, h.fr.os, h.fr.tape, h.fr.output, h.fr.size, h.fr.block, h.fr.shape, h.fr.old, h.fr.new, fun i r hi ho hlt => ?_, fun i r hi ho hki => ?_, by simp only; omega, fun l hl => ?_, fun i r hi ho hki => ?_, h.fr.gl⟩, h.defers, h.size, slot tm ht⟩
  · obtain ⟨l, r0, e1, e2, e4, _⟩ := hget i r hi
    rw [sub_get e1] at hlt ⊢
    exact h.fr.own l r0 e2 (by rw [e4] at ho; exact ho) hlt
  · obtain ⟨l, r0, e1, e2, e4, _⟩ := hget i r hi
    rw [sub_get e1]
    refine h.fr.fresh l r0 e2 (by rw [e4] at ho; exact ho) ?_
    by_cases hlt : l < Γ.k0
    · have := (List.getElem?_inj (getLt e1) hnd).1 (e1.trans (hk.2 l hlt).symm)
      omega
    · omega
  · rw [sub_get (hk.2 l hl)]; exact h.fr.ρ0 l hl
  · obtain ⟨l, r0, e1, e2, e4, _⟩ := hget i r hi
    rw [sub_get e1]
    have e4 : r.s = r0.s := e4
    refine h.fr.sfresh l r0 e2 (by rw [e4] at ho; exact ho) ?_
    by_cases hlt : l < Γ.k0
    · have := (List.getElem?_inj (getLt e1) hnd).1 (e1.trans (hk.2 l hlt).symm)
      omega
    · omega
end
def keepB (sel : List Nat) : List Nat → Bool
  | [] => true
  | l :: H => (sel[l]? == some l) && keepB sel H
theorem keepB_spec {sel : List Nat} : ∀ {H : List Nat}, keepB sel H = true → ∀ l, l ∈ H → sel[l]? = some l
  | [], _, l, hl => absurd hl List.not_mem_nil
  | x :: H, h, l, hl => by
    simp only [keepB, Bool.and_eq_true, beq_iff_eq] at h
    rcases List.mem_cons.1 hl with rfl | hl
    · exact h.1
    · exact keepB_spec h.2 l hl
theorem ps_can {G : Pg2} {N : Nat} {Γ : Fr} {K : Exit → PSt → Prop} {ops : Array Oper} {H : List Nat} {ni fin : Bool} {m : Nat} {ls : Array Bool} {sch : Sched} {st : PSt} (sel : List Nat) {tm : List (Nat × PV)} {rows : List Row} (hk : Γ.k0 ≤ sel.length ∧ ∀ i, i < Γ.k0 → sel[i]? = some i) (hd : nodupB sel = true) (hH : keepB sel H = true) (hs : SelV st.mem sel sel rows) (ht : TmOk st sel tm)
    (h : PS G N Γ ops H ni fin sch m ls ⟨tm, rows⟩ K) : PS G N Γ ops H ni fin sch m ls st K := ⟨fun h1 h2 => .mk fun HB w1 ρ I a w hrel hinv => by
  have hnd := nodupB_ok sel hd
  obtain ⟨hlen, hget⟩ := SelV.get sel rows hs
  have hkeep := keepB_spec hH
  refine (h.go h1 h2).go HB w1 (sub sel ρ) I a w (rel_selv sel hk hd hs ht hrel) ⟨hinv.same, hinv.lt, fun l r hl hr hlive => ?_, fun l r hl hr ho => ?_, hinv.imm⟩
  · obtain ⟨l0, r0, e1, e2, e4, _⟩ := hget l r hr
    have e4 : r.s = r0.s := e4
    rw [sub_get e1]
    have := hkeep l hl
    rw [e1] at this
    obtain rfl : l0 = l := by simpa using this
    exact hinv.held l0 r0 hl e2 (by rw [← e4]; exact hlive)
  · obtain ⟨l0, r0, e1, e2, e4, _⟩ := hget l r hr
    have e4 : r.s = r0.s := e4
    rw [sub_get e1]
    refine hinv.free l0 r0 (fun hm => ?_) e2 (by rw [← e4]; exact ho)
    have h3 := hkeep l0 hm
    have := (List.getElem?_inj (getLt e1) hnd).1 (e1.trans h3.symm)
    exact hl (this ▸ hm)⟩
theorem ps_ls {G : Pg2} {N : Nat} {Γ : Fr} {K : Exit → PSt → Prop} {ops : Array Oper} {H : List Nat} {ni fin : Bool} {m : Nat} {ls ls' : Array Bool} {sch : Sched} {st : PSt} (h : (ls == ls') = true) (hp : PS G N Γ ops H ni fin sch m ls' st K) : PS G N Γ ops H ni fin sch m ls st K := by
  have : ls = ls' := by simpa using h
  subst this; exact hp
end Go.Proofs.YtcghpepighboaaaDoor
