/- Calls with rows that name no rows. -/
import Derived.Test.YtnlcenlamkfmnaaPvRows2
set_option linter.unusedSimpArgs false
set_option linter.unusedVariables false
namespace Go.Proofs.Ytnlcenlamkfmnaa
open Go.RowKit

theorem PEq.cl {τ : Nat → Option Nat} : ∀ (p : PV), Cl p → PEq (p.ren τ) p := by
  intro p
  induction p with
  | junk => intro _; exact PEq.refl _
  | val x => intro _; exact PEq.refl _
  | agg n f ih => intro hc; exact .agg fun i hi => ih i (hc i hi)
  | tup n f ih => intro hc; exact .tup fun i hi => ih i (hc i hi)
  | ptr l i j => intro hc; exact hc.elim
  | lsl l i n => intro hc; exact hc.elim
  | vsl n sz f ih => intro _; exact PEq.refl _
  | vptr n sz f i j ih => intro _; exact PEq.refl _
  | opt b p ih => intro hc k ρ I w v hv; exact ⟨fun hb => ih hc _ _ _ _ _ (hv.1 hb), hv.2⟩
  | clo f n c ih => intro hc; exact .clo fun i hi => ih i (hc i hi)
  | mref l => intro hc; exact hc.elim
theorem RowEq.cl {τ : Nat → Option Nat} {r : Row} (h : rowCl r) : RowEq (r.ren τ) r := ⟨rfl, rfl, Nat.le_refl _, fun i hi j hj => PEq.cl _ (h i hi j hj)⟩
theorem RowEq.trans {a b c : Row} (h : RowEq a b) (k : RowEq b c) : RowEq a c := by
  obtain ⟨h1, h2, h3, h4⟩ := h
  obtain ⟨k1, k2, k3, k4⟩ := k
  exact ⟨k1.trans h1, k2.trans h2, Nat.le_trans k3 h3, fun i hi j hj => fun a b c d v hv => k4 i hi j hj _ _ _ _ _ (h4 i (Nat.lt_of_lt_of_le hi k3) j (by rw [← k2]; exact hj) _ _ _ _ _ hv)⟩

theorem Rel.rowsEq {N : Nat} {Γ : Fr} {tm : List (Nat × PV)} {m m' : List Row} {ρ : Nat → Loc} {I : Nat → Prop} {a : Act} {w : World} (h : Rel N Γ ⟨tm, m⟩ ρ I a w) (hl : m'.length = m.length) (he : ∀ (l : Nat) (r' : Row), m'[l]? = some r' → ∃ r : Row, m[l]? = some r ∧ RowEq r r') : Rel N Γ ⟨tm, m'⟩ ρ I a w := by
  refine ⟨⟨⟨fun l r' hr hs => ?_, fun l l' r1 r2 hne h1 h2 hs1 hs2 => ?_, fun l r' hr ho => ?_, fun l r' hr hi => ?_, h.fr.m.lt, fun l r' hr hm => ?_, fun l l' r1 r2 hne h1 h2 hs1 hs2 => ?_⟩, h.fr.os, h.fr.tape, h.fr.output, h.fr.size, h.fr.block, h.fr.shape, h.fr.old, h.fr.new, fun l r' hr ho hlt => ?_, fun l r' hr ho hk => ?_, by simp only [hl]; exact h.fr.k0, h.fr.ρ0, fun l r' hr hm hk => ?_⟩, h.defers, h.size, fun t => by simp only [hl]; exact h.slot t⟩
  · obtain ⟨r, e1, e2, e3, e4, e5⟩ := he l r' hr
    obtain ⟨h1, cs, T, h2, h3⟩ := h.fr.m.row l r e1 (by rw [← e2]; exact hs)
    refine ⟨h1.trans e3.symm, cs, T, h2, fun i hi j hj => ?_⟩
    obtain ⟨u, g1, g2, g3⟩ := h3 i (Nat.lt_of_lt_of_le hi e4) j (by rw [← e3]; exact hj)
    refine ⟨u, by rw [e3]; exact g1, g2, ?_⟩
    rw [hl]
    exact e5 i hi j hj _ _ _ _ _ g3
  · obtain ⟨q1, e1, e2, _⟩ := he l r1 h1
    obtain ⟨q2, f1, f2, _⟩ := he l' r2 h2
    exact h.fr.m.apart l l' q1 q2 hne e1 f1 (by rw [← e2]; exact hs1) (by rw [← f2]; exact hs2)
  · obtain ⟨r, e1, e2, _⟩ := he l r' hr
    exact h.fr.m.mine l r e1 (by rw [← e2]; exact ho)
  · obtain ⟨r, e1, e2, _⟩ := he l r' hr
    exact h.fr.m.imm l r e1 (by rw [← e2]; exact hi)
  · obtain ⟨r, e1, e2, e3, e4, e5⟩ := he l r' hr
    obtain ⟨g1, g2⟩ := h.fr.m.side l r e1 (by rw [← e2]; exact hm)
    exact ⟨g1, g2.up e4 e3 (.refl _) fun i hi j hj v hv => by rw [hl]; exact e5 i hi j hj _ _ _ _ _ hv⟩
  · obtain ⟨q1, e1, e2, _⟩ := he l r1 h1
    obtain ⟨q2, f1, f2, _⟩ := he l' r2 h2
    exact h.fr.m.sap l l' q1 q2 hne e1 f1 (by rw [← e2]; exact hs1) (by rw [← f2]; exact hs2)
  · obtain ⟨r, e1, e2, _⟩ := he l r' hr
    exact h.fr.own l r e1 (by rw [← e2]; exact ho) hlt
  · obtain ⟨r, e1, e2, _⟩ := he l r' hr
    exact h.fr.fresh l r e1 (by rw [← e2]; exact ho) hk
  · obtain ⟨r, e1, e2, _⟩ := he l r' hr
    exact h.fr.sfresh l r e1 (by rw [← e2]; exact hm) hk

theorem SelOk.nil {mem : List Row} {s0 : List Nat} : SelOk mem s0 [] [] := trivial
theorem SelOk.cons {mem : List Row} {s0 : List Nat} {l : Nat} {s : List Nat} {r0 r : Row} {rs : List Row} (h1 : rowAt mem l = some r0) (h2 : r0.s.live) (h3 : RowEq (r0.ren (inv s0 0)) r) (h : SelOk mem s0 s rs) : SelOk mem s0 (l :: s) (r :: rs) := ⟨⟨r0, h1, .inl h2, h3⟩, h⟩
theorem SelOk.consm {mem : List Row} {s0 : List Nat} {l : Nat} {s : List Nat} {r0 r : Row} {rs : List Row} (h1 : rowAt mem l = some r0) (h2 : r0.s = .mp) (h3 : RowEq (r0.ren (inv s0 0)) r) (h : SelOk mem s0 s rs) : SelOk mem s0 (l :: s) (r :: rs) := ⟨⟨r0, h1, .inr h2, h3⟩, h⟩
theorem PEqL.nil : PEqL [] [] := trivial
theorem PEqL.cons {p q : PV} {ps qs : List PV} (h : PEq p q) (k : PEqL ps qs) : PEqL (p :: ps) (q :: qs) := ⟨h, k⟩
def putP {α : Type} : List Nat → List Row → List Row → (List Row → Option α) → Option α
  | [], ext, mem, k => appK mem ext k
  | l :: s, r :: rows, mem, k => setM mem l r fun mem' => putP s rows mem' k
  | _ :: _, [], mem, k => k mem
def putPl : List Nat → List Row → List Row → List Row
  | [], ext, mem => mem ++ ext
  | l :: s, r :: rows, mem => putPl s rows (mem.set l r)
  | _ :: _, [], mem => mem
theorem putP_eq {α : Type} : ∀ (s : List Nat) (rows mem : List Row) (k : List Row → Option α), putP s rows mem k = k (putPl s rows mem)
  | [], ext, mem, k => by rw [putP, appK_eq, putPl]
  | l :: s, r :: rows, mem, k => by rw [putP, setM_eq, putP_eq s rows, putPl]
  | _ :: _, [], mem, k => rfl
def rowsCl : List Row → Prop
  | [] => True
  | r :: m => rowCl r ∧ rowsCl m
theorem putPl_eq (τ : Nat → Option Nat) : ∀ (s : List Nat) (rows mem mem' : List Row), rowsCl rows → mem'.length = mem.length → (∀ (l : Nat) (r' : Row), mem'[l]? = some r' → ∃ r : Row, mem[l]? = some r ∧ RowEq r r') →
    (putPl s rows mem').length = (putRows τ s rows mem).length ∧ ∀ (l : Nat) (r' : Row), (putPl s rows mem')[l]? = some r' → ∃ r : Row, (putRows τ s rows mem)[l]? = some r ∧ RowEq r r'
  | [], ext, mem, mem', hc, hl, he => by
    refine ⟨by simp [putPl, putRows, hl], fun l r' h => ?_⟩
    rw [putPl] at h
    rw [putRows]
    by_cases hlt : l < mem'.length
    · rw [List.getElem?_append_left hlt] at h
      rw [List.getElem?_append_left (by omega)]
      exact he l r' h
    · rw [List.getElem?_append_right (by omega)] at h
      rw [List.getElem?_append_right (by omega), List.getElem?_map]
      rw [hl] at h
      refine ⟨r'.ren τ, by rw [h]; rfl, RowEq.cl ?_⟩
      have : ∀ (m : List Row) (i : Nat), rowsCl m → m[i]? = some r' → rowCl r' := by
        intro m
        induction m with
        | nil => intro i _ h; simp at h
        | cons x m ih =>
          intro i hm h
          cases i with
          | zero => simp at h; subst h; exact hm.1
          | succ i => exact ih i hm.2 (by simpa using h)
      exact this ext _ hc h
  | x :: s, r :: rows, mem, mem', hc, hl, he => by
    rw [putPl, putRows]
    refine putPl_eq τ s rows _ _ hc.2 (by simp [hl]) (fun l r' h => ?_)
    by_cases e : l = x
    · subst e
      by_cases hlt : l < mem'.length
      · rw [List.getElem?_set_self hlt] at h
        simp only [Option.some.injEq] at h
        subst h
        exact ⟨r.ren τ, List.getElem?_set_self (by omega), RowEq.cl hc.1⟩
      · rw [List.getElem?_eq_none (by simp; omega)] at h; cases h
    · rw [List.getElem?_set_ne (Ne.symm e)] at h
      rw [List.getElem?_set_ne (Ne.symm e)]
      exact he l r' h
  | _ :: _, [], mem, mem', _, hl, he => ⟨by simp [putPl, putRows, hl], fun l r' h => he l r' h⟩

section
variable {G : Pg} {N : Nat} {Γ : Fr} {st : PSt}
variable {K : Exit → PSt → Prop} {ops : Array Oper} {o : Oper} {rest : List Oper} {d : Nat}
/-- a call with rows that name no rows, before and behind -/
theorem pop_rowsc {f : FuncId} {x : Operand} {args : Array Operand} {tys : Array TypeId} {n : Nat} {c : Nat → PV} {rows : List Row} {qs : List PV} {post : PV → List Row → Prop} (sel : List Nat) (hg : o.guard = none) (hdst : o.dst = some d) (hN : Nat.blt d N = true)
    (ho : o.op = .call ⟨.value x, args, tys⟩) (hx : st.ev x = .clo f n c) (hd : nodupB sel = true) (hs : SelOk st.mem sel sel rows) (hc : RowsC G.P f rows qs post) (ha : PEqL ((args.toList.map st.ev ++ capL n c 0).map (PV.ren (inv sel 0))) qs)
    (h : ∀ r rows', post r rows' → ∃ m r', putP sel rows' st.mem some = some m ∧ rowsCl rows' ∧ force (r.ren (tau sel (lenK st.mem 0))) (fun p => some (p, True)) = some (r', True) ∧ POps G N Γ ops rest (PSt.put ⟨st.tm, m⟩ d r') K) : POps G N Γ ops (o :: rest) st K := .mk fun ρ I a w hrel => by
  have hw : Region.wanted o (yielded ops a.tmps) = true := by simp [Region.wanted, hg]
  simp only [wpList, hw, if_true]
  refine .inl (rows_core sel hrel ho (hx ▸ ev_rel hrel x) hd hs hc ha ?_)
  intro v r rows' ρ2 I' w' hpost hr _ hv
  obtain ⟨m, r', e1, hcl, e2, hk⟩ := h r rows' hpost
  rw [putP_eq] at e1
  rw [force_eq, lenK_eq, Nat.zero_add] at e2
  simp only [Option.some.injEq, Prod.mk.injEq, and_true] at e1 e2
  obtain ⟨q1, q2⟩ := putPl_eq (tau sel st.mem.length) sel rows' st.mem st.mem hcl rfl (fun l r' h => ⟨r', h, RowEq.refl _⟩)
  have hr2 := hr.rowsEq q1 q2
  rw [← q1] at hv
  rw [e1] at hr2 hv
  rw [e2] at hv
  simp only [hdst]
  exact hk.go ρ2 I' _ w' (hr2.put (by rwa [Nat.blt_eq] at hN) hv)
end
section
variable {G : Pg2} {N : Nat} {Γ : Fr} {st : PSt}
variable {ops : Array Oper} {o : Oper} {d : Nat}
/-- .. in a region that draws -/
theorem pst_rowsc {K' : PSt → Prop} {f : FuncId} {x : Operand} {args : Array Operand} {tys : Array TypeId} {n : Nat} {c : Nat → PV} {rows : List Row} {qs : List PV} {post : PV → List Row → Prop} (sel : List Nat) (hg : o.guard = none) (hdst : o.dst = some d) (hN : Nat.blt d N = true)
    (ho : o.op = .call ⟨.value x, args, tys⟩) (hx : st.ev x = .clo f n c) (hd : nodupB sel = true) (hs : SelOk st.mem sel sel rows) (hc : RowsC G.P f rows qs post) (ha : PEqL ((args.toList.map st.ev ++ capL n c 0).map (PV.ren (inv sel 0))) qs)
    (h : ∀ r rows', post r rows' → ∃ m r', putP sel rows' st.mem some = some m ∧ rowsCl rows' ∧ force (r.ren (tau sel (lenK st.mem 0))) (fun p => some (p, True)) = some (r', True) ∧ K' (PSt.put ⟨st.tm, m⟩ d r')) : PStep G N Γ ops o st sel false K' := .mk fun ρ I a w hrel Q => by
  have hw : Region.wanted o (yielded ops a.tmps) = true := by simp [Region.wanted, hg]
  rw [if_pos hw]
  refine rows_core (G := G.toPg) sel hrel ho (hx ▸ ev_rel hrel x) hd hs hc ha ?_
  intro v r rows' ρ2 I' w' hpost hr hch hv
  obtain ⟨m, r', e1, hcl, e2, hk⟩ := h r rows' hpost
  rw [putP_eq] at e1
  rw [force_eq, lenK_eq, Nat.zero_add] at e2
  simp only [Option.some.injEq, Prod.mk.injEq, and_true] at e1 e2
  obtain ⟨q1, q2⟩ := putPl_eq (tau sel st.mem.length) sel rows' st.mem st.mem hcl rfl (fun l r' h => ⟨r', h, RowEq.refl _⟩)
  have hr2 := hr.rowsEq q1 q2
  rw [← q1] at hv
  rw [e1] at hr2 hv q2
  rw [e2] at hv
  rw [hdst]
  refine ⟨_, ρ2, I', hk, hr2.put (by rwa [Nat.blt_eq] at hN) hv, hch.size, hch.same, hch.loc, hch.imm, fun l r1 hl hs1 => ?_, fun l r1 hl ho1 => ?_⟩
  · obtain ⟨r2, f1, f2, _⟩ := q2 l r1 hl
    exact hch.live l r2 f1 (by rw [← f2]; exact hs1)
  · obtain ⟨r2, f1, f2, _⟩ := q2 l r1 hl
    exact hch.own l r2 f1 (by rw [← f2]; exact ho1)
theorem pst_make {K' : PSt → Prop} {r : PV} {m : List Row} {pre : Prop} (hg : o.guard = none) (hd : o.dst = some d) (hN : Nat.blt d N = true) (hr : pmake G.tab st o.op = some (r, m, pre)) (hp : pre) (h : K' (PSt.put ⟨st.tm, m⟩ d r)) : PStep G N Γ ops o st [] true K' := .mk fun ρ I a w hrel Q => by
  obtain ⟨v, w', ρ', hv, hmade⟩ := pmake_sound (G := G.toPg) hrel o hr hp
  have hw : Region.wanted o (yielded ops a.tmps) = true := by simp [Region.wanted, hg]
  rw [if_pos hw]
  simp only [Oper.wp, hv, Oper.upon_value, hd]
  exact ⟨_, ρ', I, h, hmade.rel.put (by rwa [Nat.blt_eq] at hN) hmade.val, chg_new hmade d⟩
end
end Go.Proofs.Ytnlcenlamkfmnaa
