/- slices.Sort of a row of numbers as one step, off a contract. -/
import Derived.Test.YtpaeomgnmimjoaaDoorPvClr
import Derived.Sort.Grow
import Derived.Test.YtpaeomgnmimjoaaDoorPvApp
set_option linter.unusedSimpArgs false
set_option linter.unusedVariables false
namespace Go.Proofs.YtpaeomgnmimjoaaDoor
open Go.Sort Go.RowKit
/-- a list in ascending order -/
def sortL (D : List Int) : List Int := D.mergeSort fun x y => decide (x ≤ y)
theorem sortL_perm (D : List Int) : (sortL D).Perm D := List.mergeSort_perm _ _
theorem sortL_len (D : List Int) : (sortL D).length = D.length := List.length_mergeSort _
theorem sortL_sorted (D : List Int) : (sortL D).Pairwise (· ≤ ·) := by
  refine (List.pairwise_mergeSort (fun a b c h1 h2 => ?_) (fun a b => ?_) D).imp fun h => by simpa using h
  · simp at h1 h2 ⊢; omega
  · simp; omega
/-- slices.Sort at numbers -/
structure SortC (P : Program) (f : FuncId) : Prop where
  ok : CallOk P f
  run : ∀ (blk off cap : Nat) (zs : List Int) (w : World), Holds (Value.int .i64) w blk off zs.toArray → blk < w.heap.size → zs.length < 4611686018427387904 →
    Calls P f #[.slice (some ⟨blk, off, none⟩) zs.length cap] w fun e w' => e = .returned (.tuple #[]) ∧ ∃ n os, w' = grow (putRow (Value.int .i64) (Sort.ahead w n) blk off (zs.mergeSort fun x y => decide (x ≤ y)).toArray) os
  nil : ∀ (p : Option Addr) (cap : Nat) (w : World), Calls P f #[.slice p 0 cap] w fun e w' => e = .returned (.tuple #[]) ∧ w' = w
section
variable {G : Pg} {N : Nat} {Γ : Fr} {st : PSt} {K : Exit → PSt → Prop} {ops : Array Oper} {o : Oper} {rest : List Oper} {d l : Nat} {x y : Operand} {f : FuncId} {tys : Array TypeId} {c : Nat → PV} {n : Nat} {D : List Int} {m' : List Row}
theorem pop_sort (C : SortC G.P f) (hg : o.guard = none) (hd : o.dst = some d) (hN : Nat.blt d N = true) (ho : o.op = .call ⟨.value x, #[y], tys⟩) (hx : st.ev x = .clo f 0 c) (hy : st.ev y = .lsl l 0 n) (hD : D.length = n) (hn : n < 4611686018427387904) (hr : rowAt st.mem l = some (iRow n (lF 0 D)))
    (hm : setM st.mem l (iRow n (lF 0 (sortL D))) some = some m') (h : POps G N Γ ops rest (PSt.put ⟨st.tm, m'⟩ d (.tup 0 (nthP []))) K) : POps G N Γ ops (o :: rest) st K := .mk fun ρ I a w hrel => by
  have hw : Region.wanted o (yielded ops a.tmps) = true := by simp [Region.wanted, hg]
  simp only [wpList, hw, if_true]
  refine .inl ?_
  rw [rowAt_get] at hr
  rw [setM_eq] at hm
  simp only [Option.some.injEq] at hm
  subst hm
  have hxv := ev_rel hrel x
  rw [hx] at hxv
  obtain ⟨cap1, e1, e2, _⟩ := hxv
  have hcap1 : cap1 = #[] := by apply Array.eq_empty_of_size_eq_zero e2
  subst hcap1
  have hyv := ev_rel hrel y
  rw [hy] at hyv
  obtain ⟨hlk, hyv⟩ := hyv
  obtain ⟨hs0, cs, T, hcb, hcell⟩ := hrel.fr.m.row l _ hr trivial
  have hs1 : (ρ l).sz = 1 := hs0
  simp only [Oper.wp, call_run C.ok ho e1, Oper.upon_enter]
  have ea : (#[y].map a.eval ++ #[] : Array Value) = #[a.eval y] := by simp
  rw [ea, hd]
  have hsame : n = 0 → st.mem.set l (iRow n (lF 0 (sortL D))) = st.mem := fun h0 => by
    subst h0
    have : D = [] := List.length_eq_zero_iff.1 hD
    subst this
    have e : sortL [] = [] := List.length_eq_zero_iff.1 (sortL_len [])
    rw [e]
    apply List.ext_getElem?
    intro q
    by_cases hq : q = l
    · subst hq; rw [List.getElem?_set_self (by exact lt_get hr), hr]
    · rw [List.getElem?_set_ne (Ne.symm hq)]
  have fin0 : n = 0 → Rel N Γ ⟨st.tm, st.mem.set l (iRow n (lF 0 (sortL D)))⟩ ρ I a w := fun h0 => by rw [hsame h0]; exact hrel
  rcases hyv with ⟨rfl, ad, hv⟩ | ⟨cap, hcap, hv, cs2, T2, fz2, hcb2, hsz2⟩
  · rw [hv]
    refine (C.nil ad 0 w).mono ?_
    rintro e w' ⟨rfl, rfl⟩
    exact h.go ρ I _ _ ((fin0 rfl).put (by rwa [Nat.blt_eq] at hN) ⟨_, rfl, rfl, fun i hi => by omega⟩)
  · rw [hv]
    by_cases h0 : n = 0
    · subst h0
      refine (C.nil _ cap w).mono ?_
      rintro e w' ⟨rfl, rfl⟩
      exact h.go ρ I _ _ ((fin0 rfl).put (by rwa [Nat.blt_eq] at hN) ⟨_, rfl, rfl, fun i hi => by omega⟩)
    · have hcellv : ∀ q, q < n → cs[(ρ l).o + q]? = some (.int .i64 (lF 0 D q)) := fun q hq => by
        obtain ⟨u, g1, g2, g3⟩ := hcell q hq 0 Nat.zero_lt_one
        have g1 : cs[(ρ l).o + q * 1 + 0]? = some u := g1
        rw [Nat.mul_one, Nat.add_zero] at g1
        have g3 : u = .int .i64 (lF 0 D q) := g3
        rw [g1, g3]
      have hbl : (ρ l).b < w.heap.size := (Array.getElem?_eq_some_iff.1 hcb).1
      have hH : Holds (Value.int .i64) w (ρ l).b ((ρ l).o + 0 * (ρ l).sz) D.toArray := fun j hj => by
        have hj : j < D.length := by simpa using hj
        refine ⟨?_, by simp [World.frozen?, hcb]⟩
        have := hcellv j (by omega)
        simp only [World.cell?, hcb]
        rw [Nat.zero_mul, Nat.add_zero, this]
        unfold lF
        simp [List.getD_eq_getElem?_getD, List.getElem?_eq_getElem hj, hj]
      have hC := C.run (ρ l).b ((ρ l).o + 0 * (ρ l).sz) cap D w hH hbl (by omega)
      rw [hD] at hC
      refine hC.mono ?_
      rintro e w' ⟨rfl, dn, os, rfl⟩
      have hoff : (ρ l).o + 0 * (ρ l).sz = (ρ l).o := by omega
      rw [hoff]
      obtain ⟨S, hS⟩ : ∃ S, S = sortL D := ⟨_, rfl⟩
      have hSl : S.length = n := by rw [hS, sortL_len, hD]
      have hgo : (D.mergeSort fun x y => decide (x ≤ y)) = S := hS.symm
      rw [hgo]
      rw [← hS] at h
      have hb1 : (putRow (Value.int .i64) (Sort.ahead w dn) (ρ l).b (ρ l).o S.toArray).heap[(ρ l).b]? = some (.cells (putCells (Value.int .i64) (ρ l).o S.toArray cs) T (0, 0)) := by
        simp [putRow, mapBlock, Sort.ahead, Array.getElem?_modify, hcb, onCells]
      have hother : ∀ b, b ≠ (ρ l).b → (putRow (Value.int .i64) (Sort.ahead w dn) (ρ l).b (ρ l).o S.toArray).heap[b]? = w.heap[b]? := fun b hb => by
        simp [putRow, mapBlock, Sort.ahead, Array.getElem?_modify, Ne.symm hb]
      have hset := hrel.setRow hr trivial (iRow n (lF 0 S)) rfl rfl hcb hb1 (by simp [putCells]) hother rfl rfl rfl (by simp [putRow, mapBlock, Sort.ahead]) (fun q hq j hj => by
        have hq : q < n := hq
        have hj : j < 1 := hj
        obtain rfl : j = 0 := by omega
        have hlt : (ρ l).o + q < cs.size := by
          have := hcellv q hq
          exact (Array.getElem?_eq_some_iff.1 this).1
        refine ⟨.int .i64 (lF 0 S q), ?_, rfl, rfl⟩
        show (putCells (Value.int .i64) (ρ l).o S.toArray cs)[(ρ l).o + q * 1 + 0]? = _
        rw [Nat.mul_one, Nat.add_zero]
        unfold lF
        simp only [putCells, Array.getElem?_mapIdx, Array.getElem?_eq_getElem hlt, Option.map_some]
        rw [if_pos ⟨by omega, by simp; omega⟩]
        simp [List.getD_eq_getElem?_getD, show q < S.length by omega])
      have hx2 : Ext (putRow (Value.int .i64) (Sort.ahead w dn) (ρ l).b (ρ l).o S.toArray) (grow (putRow (Value.int .i64) (Sort.ahead w dn) (ρ l).b (ρ l).o S.toArray) os) :=
        ⟨rfl, rfl, rfl, by simp [grow], fun b hb => Array.getElem?_append_left hb⟩
      exact h.go ρ I _ _ ((hset.ext hx2 (I' := I) (fun _ h => h) (fun _ h => .inl h)).put (by rwa [Nat.blt_eq] at hN) ⟨_, rfl, rfl, fun i hi => by omega⟩)
end
end Go.Proofs.YtpaeomgnmimjoaaDoor
