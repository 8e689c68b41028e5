/- clear of a part of a row of numbers. -/
import Derived.Test.YtpaeomgnmimjoaaDoorPvIter
import Derived.Laws.IdiomCopy
set_option linter.unusedSimpArgs false
set_option linter.unusedVariables false
namespace Go.Proofs.YtpaeomgnmimjoaaDoor
theorem ocan0 {G : Pg} {N : Nat} {Γ : Fr} {st st' : PSt} {K : Exit → PSt → Prop} {ops : Array Oper} {l : List Oper} (hc : Can N Γ st st') (h : POps G N Γ ops l st' K) : POps G N Γ ops l st K := .mk fun ρ I a w hr => by
  obtain ⟨ρ', I', h1⟩ := hc ρ I a w hr
  exact h.go ρ' I' a w h1
section
variable {G : Pg} {N : Nat} {Γ : Fr} {st : PSt} {K : Exit → PSt → Prop} {ops : Array Oper} {o : Oper} {rest : List Oper} {l : Nat} {x : Operand} {t e : TypeId} {i n : Nat} {r : Row} {m' : List Row}
/-- the row behind clear -/
def clrF (i n : Nat) (f : Nat → Nat → PV) : Nat → Nat → PV := fun a b => if i ≤ a ∧ a < i + n then vi 0 else f a b
theorem pop_clear (hu : G.P.underlying t = some (.slice e)) (hz : ∀ w, (zeroValue e).run G.P w = .ok (.int .i64 0) w) (hg : o.guard = none) (hd : o.dst = none) (ho : o.op = .call ⟨.builtin .clear, #[x], #[t]⟩) (hx : st.ev x = .lsl l i n) (hr : rowAt st.mem l = some r) (hs : r.s = .own) (hsz : r.sz = 1)
    (hm : setM st.mem l ⟨.own, false, r.n, 1, clrF i n r.f⟩ some = some m') (h : POps G N Γ ops rest ⟨st.tm, m'⟩ K) : POps G N Γ ops (o :: rest) st K := .mk fun ρ I a w hrel => by
  have hw : Region.wanted o (yielded ops a.tmps) = true := by simp [Region.wanted, hg]
  simp only [wpList, hw, if_true]
  refine .inl ?_
  rw [rowAt_get] at hr
  rw [setM_eq] at hm
  simp only [Option.some.injEq] at hm
  subst hm
  have hxv := ev_rel hrel x
  rw [hx] at hxv
  obtain ⟨hlk, hxv⟩ := hxv
  have hio : r.s.isOwn := by rw [hs]; trivial
  obtain ⟨hs0, cs, T, hcb, hcell⟩ := hrel.fr.m.row l r hr (RS.live_of_own hio)
  have hs1 : (ρ l).sz = 1 := hs0.trans hsz
  have hrun : ∃ ws : List Value, ws.length = n ∧ (∀ q, q < n → ws[q]? = some (.int .i64 0)) ∧ (execOp a.eval o).run G.P w = .ok (.value (.tuple #[])) (w.setCells (ρ l).b ((ρ l).o + i) ws) := by
    rcases hxv with ⟨rfl, ad, hv⟩ | ⟨cap, hcap, hv, cs2, T2, fz2, hcb2, hsz2⟩
    · refine ⟨[], rfl, fun q hq => by omega, ?_⟩
      simp only [execOp, ho, resolve, Sem.run_bind, Sem.run_pure, Result.andThen_ok, invoke, builtin]
      have e1 : (#[x].map a.eval) = #[a.eval x] := by simp
      rw [e1, hv]
      cases ad <;> simp [Builtin.clear_, run_underlying hu, World.setCells]
    · rw [hcb] at hcb2
      simp only [Option.some.injEq, Obj.cells.injEq] at hcb2
      obtain ⟨rfl, rfl, rfl⟩ := hcb2
      rw [hs1] at hsz2 hv
      have hzc : (Builtin.zeroCells #[Value.int .i64 0] n).toList = List.replicate n (.int .i64 0) := by
        apply List.ext_getElem?
        intro q
        simp [Builtin.zeroCells, List.getElem?_replicate]
        by_cases hq : q < n
        · simp [hq, Nat.mod_one]
        · simp [hq]
      refine ⟨List.replicate n (.int .i64 0), by simp, fun q hq => by simp [hq], ?_⟩
      simp only [execOp, ho, resolve, Sem.run_bind, Sem.run_pure, Result.andThen_ok, invoke, builtin]
      have e1 : (#[x].map a.eval) = #[a.eval x] := by simp
      rw [e1, hv]
      rcases n with _ | n
      · simp [Builtin.clear_, run_underlying hu, World.setCells]
      · have hst := run_storeCells_cells (P := G.P) (ρ l).b ((ρ l).o + i * 1) (List.replicate (n + 1) (.int .i64 0)) 0 w (fun j hj => by
            have hj : j < n + 1 := by simpa using hj
            simp only [World.cell?, hcb]
            have : (ρ l).o + i * 1 + 0 + j < cs.size := by omega
            simp only [Nat.mul_one, Nat.add_zero] at this ⊢
            simp [this]) (fun j hj => by simp [World.frozen?, hcb]) (fun u hu => by
            have := List.eq_of_mem_replicate hu
            rw [this]; rfl)
        rw [← hzc] at hst
        simp only [Nat.add_zero] at hst
        rw [hzc, Nat.mul_one] at hst
        simp [Builtin.clear_, run_underlying hu, hz, Value.cells, hzc, hst, Result.andThen]
  obtain ⟨ws, w1, w2, hv⟩ := hrun
  simp only [Oper.wp, hv, Oper.upon_value, hd, Act.put]
  obtain ⟨cs', k1, k2, k3⟩ := heap_setCells (ρ l).b ws ((ρ l).o + i) w cs T (0, 0) hcb
  obtain ⟨z1, z2, z3, z4⟩ := rest_setCells (ρ l).b ws ((ρ l).o + i) w
  refine h.go ρ I _ _ (hrel.setRow hr hio ⟨.own, false, r.n, 1, clrF i n r.f⟩ rfl hsz.symm hcb k1 k2 (fun b hne => other_setCells _ _ _ _ b hne) z1 z2 z3 z4 (fun p hp q hq => ?_))
  have hq : q < 1 := hq
  obtain rfl : q = 0 := by omega
  have hp : p < r.n := hp
  obtain ⟨u, g1, g2, g3⟩ := hcell p hp 0 (by omega)
  rw [hsz] at g1
  rw [k3]
  by_cases hc : i ≤ p ∧ p < i + n
  · have hlt : (ρ l).o + p * 1 + 0 < cs.size := by
      by_cases hlt : (ρ l).o + p * 1 + 0 < cs.size
      · exact hlt
      · rw [Array.getElem?_eq_none (by omega)] at g1; cases g1
    simp only
    rw [if_pos (by omega)]
    refine ⟨_, rfl, ?_⟩
    have e2 : ws.getD ((ρ l).o + p * 1 + 0 - ((ρ l).o + i)) undef = .int .i64 0 := by
      rw [show (ρ l).o + p * 1 + 0 - ((ρ l).o + i) = p - i by omega, List.getD_eq_getElem?_getD, w2 _ (by omega)]; rfl
    rw [e2]
    refine ⟨rfl, ?_⟩
    show VRel _ _ _ _ (clrF i n r.f p 0) _
    unfold clrF; rw [if_pos hc]; exact rfl
  · simp only
    rw [if_neg (by omega)]
    refine ⟨u, g1, g2, ?_⟩
    show VRel _ _ _ _ (clrF i n r.f p 0) _
    unfold clrF; rw [if_neg hc]; exact g3
end
end Go.Proofs.YtpaeomgnmimjoaaDoor
