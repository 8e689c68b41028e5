/- Words for drawn regions with several orders. -/
import Derived.Test.YtcghpepighboaaaDoorX20
set_option linter.unusedSimpArgs false
set_option linter.unusedVariables false
set_option maxRecDepth 100000
namespace Go.Proofs.YtcghpepighboaaaDoor
theorem take_snoc {α : Type} {d : α} {l : List α} {n : Nat} (h : n < l.length) : l.take (n + 1) = l.take n ++ [lF d l n] := by
  rw [List.take_succ_eq_append_getElem h]
  unfold lF; rw [List.getD_eq_getElem?_getD, List.getElem?_eq_getElem h]; rfl
abbrev cSt (x : ByteArray) : List PV := [vs x]
theorem cSt_cl : CellsCl cSt := fun _ => ⟨trivial, trivial⟩
def dropS : Nat → Code → Code
  | 0, c => c
  | n + 1, .seq _ b => dropS n b
  | _, c => c
theorem pcutx {G : Pg} {N : Nat} {Γ : Fr} {st : PSt} {K : Exit → PSt → Prop} {x y : Code} {id : Nat} (M : PSt → Prop) (h : PWp G N Γ x st (Kblock id (Kcut N Γ M K))) (hy : ∀ st, M st → PWp G N Γ y st K) : PWp G N Γ x st (Kblock id (Kseq G N Γ y K)) := .mk fun ρ I a w hr =>
  wp_mono (h.go ρ I a w hr) fun e a w ⟨h1, st, ρ, I, h2, h3⟩ => by
    have nrm : Kcut N Γ M K .normal st → ∃ st ρ I, Kseq G N Γ y K .normal st ∧ Rel N Γ st ρ I a w := fun hc => by
      obtain ⟨st', hc, hm⟩ := hc.go
      obtain ⟨ρ', I', hr'⟩ := hc ρ I a w h3
      exact ⟨st', ρ', I', kseq_normal (hy st' hm), hr'⟩
    have h2 := h2.go
    cases e with
    | normal =>
      obtain ⟨st', ρ', I', h4, h5⟩ := nrm h2
      exact ⟨h1, st', ρ', I', ⟨h4⟩, h5⟩
    | exit i =>
      have h2 : (bif Nat.beq i id then Kcut N Γ M K .normal st else Kcut N Γ M K (.exit i) st) := h2
      cases hb : Nat.beq i id
      · rw [hb] at h2
        exact ⟨h1, st, ρ, I, ⟨show (bif Nat.beq i id then _ else _ : Prop) from by rw [hb]; exact ⟨h2.go⟩⟩, h3⟩
      · rw [hb] at h2
        obtain ⟨st', ρ', I', h4, h5⟩ := nrm h2
        exact ⟨h1, st', ρ', I', ⟨show (bif Nat.beq i id then _ else _ : Prop) from by rw [hb]; exact h4⟩, h5⟩
    | _ => exact ⟨h1, st, ρ, I, ⟨⟨h2.go⟩⟩, h3⟩
section
variable {G : Pg2} {N : Nat} {Γ : Fr} {K : Exit → PSt → Prop} {ops : Array Oper} {H : List Nat} {ni fin : Bool} {m : Nat} {ls : Array Bool} {st : PSt} {o : Oper}
def lsF (L : List Nat) (n : Nat) : Array Bool := ((List.range n).map fun i => L.any (Nat.beq i)).toArray
theorem xs_more {sch : Sched} {m' : Nat} (hok : schOk ops fin sch ls = true) (hm : schLen sch + m' = m) (h : PS G N Γ ops H ni fin sch m' ls st K) : PS G N Γ ops H ni false [] m ls st K := ⟨fun hs _ => by
  show PE G N Γ ops H ni (0 + m) ls st K
  rw [Nat.zero_add, ← hm]
  exact h.go hs hok⟩
def fTm {α : Type} : List (Nat × PV) → (List (Nat × PV) → Option α) → Option α
  | [], k => k []
  | (d, v) :: l, k => fTm l fun l' => k ((d, v) :: l')
def fMem {α : Type} : List Row → (List Row → Option α) → Option α
  | [], k => k []
  | ⟨s, o, n, sz, f⟩ :: l, k => fMem l fun l' => k (⟨s, o, n, sz, f⟩ :: l')
def fSt (st : PSt) : Option PSt := match st with | ⟨tm, mem⟩ => fTm tm fun tm => fMem mem fun mem => some ⟨tm, mem⟩
theorem fTm_eq {α : Type} : ∀ (l : List (Nat × PV)) (k : List (Nat × PV) → Option α), fTm l k = k l
  | [], _ => rfl
  | (d, v) :: l, k => by rw [fTm, fTm_eq l]
theorem fMem_eq {α : Type} : ∀ (l : List Row) (k : List Row → Option α), fMem l k = k l
  | [], _ => rfl
  | ⟨s, o, n, sz, f⟩ :: l, k => by rw [fMem, fMem_eq l]
theorem fSt_eq {st st' : PSt} (h : fSt st = some st') : st' = st := by
  obtain ⟨tm, mem⟩ := st
  have h : fTm tm (fun tm => fMem mem fun mem => some (⟨tm, mem⟩ : PSt)) = some st' := h
  rw [fTm_eq, fMem_eq] at h
  exact (Option.some.inj h).symm
theorem lsF_set (L : List Nat) (n i : Nat) : (lsF L n).setIfInBounds i true = lsF (i :: L) n := by
  apply Array.ext
  · simp [lsF]
  · intro a h1 h2
    have ha : a < n := by simpa [lsF] using h2
    rw [Array.getElem_setIfInBounds (by simpa [lsF] using ha)]
    by_cases e : i = a
    · subst e; simp [lsF]
    · have e2 : Nat.beq a i = false := by cases hb : Nat.beq a i; rfl; exact absurd (Nat.eq_of_beq_eq_true hb).symm e
      rw [if_neg e]
      simp [lsF, e2]
def brOk (ops : Array Oper) (ls : Array Bool) (m : Nat) (T : List (Nat × Sched × Bool × Nat)) : Bool :=
  (Region.ready .any ops ls == T.map Prod.fst) && (!T.isEmpty && T.all fun x => schOk ops x.2.2.1 x.2.1 (ls.setIfInBounds x.1 true) && schLen x.2.1 + x.2.2.2 == m)
inductive BrAll (G : Pg2) (N : Nat) (Γ : Fr) (ops : Array Oper) (H : List Nat) (ni : Bool) (L : List Nat) (n : Nat) (st : PSt) (K : Exit → PSt → Prop) : List (Nat × Sched × Bool × Nat) → Prop where
  | nil : BrAll G N Γ ops H ni L n st K []
  | cons {i : Nat} {sch : Sched} {fin : Bool} {m' : Nat} {T : List (Nat × Sched × Bool × Nat)} (h : ∃ o ch nk, opAt ops.toList i = some o ∧ chB H ch = true ∧ PStep G N Γ ops o st ch nk (fun st' => PS G N Γ ops H (ni && nk) fin sch m' (lsF (i :: L) n) st' K)) (ht : BrAll G N Γ ops H ni L n st K T) : BrAll G N Γ ops H ni L n st K ((i, sch, fin, m') :: T)
theorem BrAll.at {n : Nat} {L : List Nat} {T : List (Nat × Sched × Bool × Nat)} (h : BrAll G N Γ ops H ni L n st K T) : ∀ i, i ∈ T.map Prod.fst → ∃ x, x ∈ T ∧ x.1 = i ∧ ∃ o ch nk, opAt ops.toList i = some o ∧ chB H ch = true ∧ PStep G N Γ ops o st ch nk (fun st' => PS G N Γ ops H (ni && nk) x.2.2.1 x.2.1 x.2.2.2 (lsF (i :: L) n) st' K) := by
  induction h with
  | nil => intro i hi; cases hi
  | cons h ht ih =>
    intro i hi
    rw [List.map_cons, List.mem_cons] at hi
    rcases hi with rfl | hi
    · exact ⟨_, List.mem_cons_self .., rfl, h⟩
    · obtain ⟨x, h1, h2, h3⟩ := ih i hi
      exact ⟨x, List.mem_cons_of_mem _ h1, h2, h3⟩
theorem xs_brT {st1 : PSt} {n : Nat} (L : List Nat) (T : List (Nat × Sched × Bool × Nat)) (hls : (ls == lsF L n) = true) (hf : fSt st = some st1) (hok : brOk ops (lsF L n) m T = true) (hH : inB st1.mem.length H = true) (h : BrAll G N Γ ops H ni L n st1 K T) : PS G N Γ ops H ni false [] (m + 1) ls st K := by
  have e := fSt_eq hf
  have e2 : ls = lsF L n := by simpa using hls
  subst e e2
  simp only [brOk, Bool.and_eq_true, beq_iff_eq, List.all_eq_true] at hok
  obtain ⟨h1, h2, h3⟩ := hok
  refine xs_br hH h1 (by cases T; simp at h2; simp) fun i hi => ?_
  obtain ⟨x, hx, rfl, o, ch, nk, g1, g2, g3⟩ := h.at i hi
  obtain ⟨h4, h5⟩ := h3 x hx
  refine ⟨o, ch, nk, g1, g2, .mk fun ρ I a w hrel Q => ?_⟩
  have := g3.go ρ I a w hrel Q
  split
  · rename_i hw
    rw [if_pos hw] at this
    exact Oper.wp_mono (fun a' w' ⟨st', ρ', I', hk, hr⟩ => ⟨st', ρ', I', ⟨_, _, _, h4, h5, by rw [lsF_set]; exact hk⟩, hr⟩) this
  · rename_i hw
    rw [if_neg hw] at this
    obtain ⟨st', ρ', I', hk, hr⟩ := this
    exact ⟨st', ρ', I', ⟨_, _, _, h4, h5, by rw [lsF_set]; exact hk⟩, hr⟩
theorem xs_moreF {sch : Sched} {m' n : Nat} (L : List Nat) (hls : (ls == lsF L n) = true) (hok : (schOk ops fin sch (lsF L n) && schLen sch + m' == m) = true) (h : PS G N Γ ops H ni fin sch m' (lsF L n) st K) : PS G N Γ ops H ni false [] m ls st K := by
  have e2 : ls = lsF L n := by simpa using hls
  subst e2
  simp only [Bool.and_eq_true, beq_iff_eq] at hok
  exact xs_more hok.1 hok.2 h
theorem xs_takeR {i d : Nat} {s : Sched} {r : PV} {p : Prop} (hi : opAt ops.toList i = some o) (hg : o.guard = none) (hd : o.dst = some d) (hN : Nat.blt d N = true) (hr : pread G.tab ⟨st.tm, maskM H 0 st.mem⟩ o.op = some (r, p)) (hni : (needI st o.op && !ni) = false) (hp : p)
    (h : PS G N Γ ops H ni fin s m (ls.setIfInBounds i true) (st.put d r) K) : PS G N Γ ops H ni fin (.take i :: s) m ls st K := ⟨fun hs hok => by
  simp only [schOk, Bool.and_eq_true] at hok
  have ht : takeOp G.tab G.eqs N ops H ni st o = some (st.put d r, p) := by
    unfold takeOp
    simp only [hd, hN, hg, hr, hni, cond_true, cond_false]
  have := pe_take (fuel := schLen s + m) i (opAt_ops hi) hs hok.1.1 hok.1.2 ht hp (h.go hs hok.2)
  rw [schLen, show schLen s + 1 + m = schLen s + m + 1 by omega]
  · exact this
  · intro _ _ h; cases h⟩
end
end Go.Proofs.YtcghpepighboaaaDoor
