/- Calls with rows; dropping rows. -/
import Derived.Test.YtnlcenlamkfmnaaPvRows
set_option linter.unusedSimpArgs false
set_option linter.unusedVariables false
namespace Go.Proofs.Ytnlcenlamkfmnaa
open Go.RowKit

def capL : Nat → (Nat → PV) → Nat → List PV
  | 0, _, _ => []
  | n + 1, c, i => c i :: capL n c (i + 1)
theorem capL_nth (c : Nat → PV) : ∀ (n i j : Nat), j < n → nthP (capL n c i) j = c (i + j)
  | 0, _, _, h => by omega
  | n + 1, i, 0, _ => rfl
  | n + 1, i, j + 1, h => by
    rw [capL, nthP, capL_nth c n (i + 1) j (by omega)]; congr 1; omega
theorem capL_length (c : Nat → PV) : ∀ (n i : Nat), (capL n c i).length = n
  | 0, _ => rfl
  | n + 1, i => by simp [capL, capL_length c n]
theorem nthP_append : ∀ (l m : List PV) (i : Nat), nthP (l ++ m) i = if i < l.length then nthP l i else nthP m (i - l.length)
  | [], m, i => by simp
  | p :: l, m, 0 => by simp [nthP]
  | p :: l, m, i + 1 => by
    rw [List.cons_append, nthP, nthP_append l m i]
    by_cases h : i < l.length
    · rw [if_pos h, if_pos (by simpa using h), nthP]
    · rw [if_neg h, if_neg (by simpa using h)]; simp
theorem nthP_ren (τ : Nat → Option Nat) : ∀ (l : List PV) (i : Nat), nthP (l.map (PV.ren τ)) i = (nthP l i).ren τ
  | [], i => rfl
  | p :: l, 0 => rfl
  | p :: l, i + 1 => nthP_ren τ l i

def renK {α : Type} (τ : Nat → Option Nat) : List Row → (List Row → Option α) → Option α
  | [], k => k []
  | ⟨s, o, n, z, f⟩ :: m, k => renK τ m fun m' => k (⟨s, o, n, z, fun i j => (f i j).ren τ⟩ :: m')
theorem renK_eq {α : Type} (τ : Nat → Option Nat) : ∀ (m : List Row) (k : List Row → Option α), renK τ m k = k (m.map (Row.ren τ))
  | [], k => rfl
  | ⟨s, o, n, z, f⟩ :: m, k => by rw [renK, renK_eq τ m]; rfl
def appK {α : Type} : List Row → List Row → (List Row → Option α) → Option α
  | [], e, k => k e
  | r :: m, e, k => appK m e fun m' => k (r :: m')
theorem appK_eq {α : Type} : ∀ (m e : List Row) (k : List Row → Option α), appK m e k = k (m ++ e)
  | [], e, k => rfl
  | r :: m, e, k => by rw [appK, appK_eq m e]; rfl
def putK {α : Type} (τ : Nat → Option Nat) : List Nat → List Row → List Row → (List Row → Option α) → Option α
  | [], ext, mem, k => renK τ ext fun e => appK mem e k
  | l :: s, ⟨a, b, c, d, f⟩ :: rows, mem, k => setM mem l ⟨a, b, c, d, fun i j => (f i j).ren τ⟩ fun mem' => putK τ s rows mem' k
  | _ :: _, [], mem, k => k mem
theorem putK_eq {α : Type} (τ : Nat → Option Nat) : ∀ (s : List Nat) (rows mem : List Row) (k : List Row → Option α), putK τ s rows mem k = k (putRows τ s rows mem)
  | [], ext, mem, k => by rw [putK, renK_eq, appK_eq, putRows]
  | l :: s, ⟨a, b, c, d, f⟩ :: rows, mem, k => by rw [putK, setM_eq, putK_eq τ s rows, putRows]; rfl
  | _ :: _, [], mem, k => rfl
def lenK (m : List Row) (n : Nat) : Nat := match m with
  | [] => n
  | _ :: m => lenK m (n + 1)
theorem lenK_eq : ∀ (m : List Row) (n : Nat), lenK m n = n + m.length
  | [], n => rfl
  | _ :: m, n => by rw [lenK, lenK_eq m]; simp; omega
def nodupB : List Nat → Bool
  | [] => true
  | x :: l => !(l.any (Nat.beq x)) && nodupB l
theorem nodupB_ok : ∀ (l : List Nat), nodupB l = true → l.Nodup
  | [], _ => List.nodup_nil
  | x :: l, h => by
    rw [nodupB, Bool.and_eq_true] at h
    refine List.nodup_cons.2 ⟨fun hm => ?_, nodupB_ok l h.2⟩
    rw [(any_beq l x).2 hm] at h; simp at h

section
variable {G : Pg} {N : Nat} {Γ : Fr} {st : PSt} {ρ : Nat → Loc} {I : Nat → Prop} {a : Act} {w : World}
variable {K : Exit → PSt → Prop} {ops : Array Oper} {o : Oper} {rest : List Oper} {d : Nat}

theorem rows_core {f : FuncId} {x : Operand} {args : Array Operand} {tys : Array TypeId} {n : Nat} {c : Nat → PV} {rows : List Row} {qs : List PV} {post : PV → List Row → Prop} {K' : Act → World → Prop} {Q : Exit → Act → World → Prop} (sel : List Nat) (hrel : Rel N Γ st ρ I a w)
    (ho : o.op = .call ⟨.value x, args, tys⟩) (hx : VRel st.mem.length ρ I w (.clo f n c) (a.eval x)) (hd : nodupB sel = true) (hs : SelOk st.mem sel sel rows) (hc : RowsC G.P f rows qs post) (ha : PEqL ((args.toList.map st.ev ++ capL n c 0).map (PV.ren (inv sel 0))) qs)
    (h : ∀ v r rows' ρ2 I' w', post r rows' → Rel N Γ ⟨st.tm, putRows (tau sel st.mem.length) sel rows' st.mem⟩ ρ2 I' a w' → Chg st ρ I w sel false ⟨st.tm, putRows (tau sel st.mem.length) sel rows' st.mem⟩ ρ2 I' w' → VRel (putRows (tau sel st.mem.length) sel rows' st.mem).length ρ2 I' w' (r.ren (tau sel st.mem.length)) v → K' (a.put o.dst v) w') : o.wp G.P a w K' Q := by
  obtain ⟨cap, e1, e2, e3⟩ := hx
  have hnd := nodupB_ok sel hd
  have hlen := (SelOk.get sel rows hs).1
  simp only [Oper.wp, call_run hc.1 ho e1, Oper.upon_enter]
  obtain ⟨ql, qv⟩ := PEqL.get ha
  have hcall := hc.2 (sub sel ρ) I w (args.toList.map a.eval ++ cap.toList) (hrel.fr.m.sel hs hnd) (by rw [ql]; simp [capL_length, e2]) (fun i hi => by
    rw [ql] at hi
    refine qv i hi _ _ _ _ _ ?_
    rw [nthP_ren]
    refine VRel.ren (k := st.mem.length) (inv_ok hlen) _ _ ?_
    rw [nthP_append]
    simp only [List.length_map, List.length_append, capL_length] at hi ⊢
    by_cases hlt : i < args.toList.length
    · rw [if_pos hlt]
      have := evs_rel hrel args.toList i (by simpa using hlt)
      have e : (args.toList.map a.eval ++ cap.toList).getD i undef = (args.toList.map a.eval).getD i undef := by
        simp only [List.getD]; rw [List.getElem?_append_left (by simpa using hlt)]
      rw [e]; exact this
    · rw [if_neg hlt, capL_nth c n 0 _ (by omega), Nat.zero_add]
      have := e3 (i - args.toList.length) (by omega)
      have e : (args.toList.map a.eval ++ cap.toList).getD i undef = cap.getD (i - args.toList.length) undef := by
        simp only [List.getD]; rw [List.getElem?_append_right (by simpa using Nat.le_of_not_lt hlt)]
        simp [Array.getD_eq_getD_getElem?]
      rw [e]; exact this)
  have eargs : (args.map a.eval ++ cap) = (args.toList.map a.eval ++ cap.toList).toArray := by apply Array.ext'; simp
  rw [eargs]
  refine hcall.mono ?_
  rintro e w' ⟨v, r, rows', ρ', I', rfl, hpost, hex, hfr, hv⟩
  obtain ⟨ρ2, h1, h3, h2⟩ := hrel.rowsCall hs hnd hex hfr
  exact h v r rows' ρ2 I' w' hpost h1 h3 (h2 r v hv)
/-- a call with rows -/
theorem pop_rows {f : FuncId} {x : Operand} {args : Array Operand} {tys : Array TypeId} {n : Nat} {c : Nat → PV} {rows : List Row} {qs : List PV} {post : PV → List Row → Prop} (sel : List Nat) (hg : o.guard = none) (hdst : o.dst = some d) (hN : Nat.blt d N = true)
    (ho : o.op = .call ⟨.value x, args, tys⟩) (hx : st.ev x = .clo f n c) (hd : nodupB sel = true) (hs : SelOk st.mem sel sel rows) (hc : RowsC G.P f rows qs post) (ha : PEqL ((args.toList.map st.ev ++ capL n c 0).map (PV.ren (inv sel 0))) qs)
    (h : ∀ r rows', post r rows' → ∃ m r', putK (tau sel (lenK st.mem 0)) sel rows' st.mem some = some m ∧ force (r.ren (tau sel (lenK st.mem 0))) (fun p => some (p, True)) = some (r', True) ∧ POps G N Γ ops rest (PSt.put ⟨st.tm, m⟩ d r') K) : POps G N Γ ops (o :: rest) st K := .mk fun ρ I a w hrel => by
  have hw : Region.wanted o (yielded ops a.tmps) = true := by simp [Region.wanted, hg]
  simp only [wpList, hw, if_true]
  refine .inl (rows_core sel hrel ho (hx ▸ ev_rel hrel x) hd hs hc ha ?_)
  intro v r rows' ρ2 I' w' hpost hr _ hv
  obtain ⟨m, r', e1, e2, hk⟩ := h r rows' hpost
  rw [putK_eq, lenK_eq, Nat.zero_add] at e1
  rw [force_eq, lenK_eq, Nat.zero_add] at e2
  simp only [Option.some.injEq, Prod.mk.injEq, and_true] at e1 e2
  rw [e1] at hr hv
  rw [e2] at hv
  simp only [hdst]
  exact hk.go ρ2 I' _ w' (hr.put (by rwa [Nat.blt_eq] at hN) hv)
/-- .. without a result -/
theorem pop_rows0 {f : FuncId} {x : Operand} {args : Array Operand} {tys : Array TypeId} {n : Nat} {c : Nat → PV} {rows : List Row} {qs : List PV} {post : PV → List Row → Prop} (sel : List Nat) (hg : o.guard = none) (hdst : o.dst = none)
    (ho : o.op = .call ⟨.value x, args, tys⟩) (hx : st.ev x = .clo f n c) (hd : nodupB sel = true) (hs : SelOk st.mem sel sel rows) (hc : RowsC G.P f rows qs post) (ha : PEqL ((args.toList.map st.ev ++ capL n c 0).map (PV.ren (inv sel 0))) qs)
    (h : ∀ r rows', post r rows' → ∃ m, putK (tau sel (lenK st.mem 0)) sel rows' st.mem some = some m ∧ POps G N Γ ops rest ⟨st.tm, m⟩ K) : POps G N Γ ops (o :: rest) st K := .mk fun ρ I a w hrel => by
  have hw : Region.wanted o (yielded ops a.tmps) = true := by simp [Region.wanted, hg]
  simp only [wpList, hw, if_true]
  refine .inl (rows_core sel hrel ho (hx ▸ ev_rel hrel x) hd hs hc ha ?_)
  intro v r rows' ρ2 I' w' hpost hr _ hv
  obtain ⟨m, e1, hk⟩ := h r rows' hpost
  rw [putK_eq, lenK_eq, Nat.zero_add] at e1
  simp only [Option.some.injEq] at e1
  rw [e1] at hr
  simp only [hdst, Act.put]
  exact hk.go ρ2 I' _ w' hr

/-- slots that say no more -/
def TmOk (st : PSt) (sel : List Nat) : List (Nat × PV) → Prop
  | [] => True
  | (t, p) :: tm => PEq ((st.get t).ren (inv sel 0)) p ∧ TmOk st sel tm
/-- the rows sel are kept, under new numbers -/
theorem can_rows (sel : List Nat) {tm : List (Nat × PV)} {rows : List Row} (hk : Γ.k0 ≤ sel.length ∧ ∀ i, i < Γ.k0 → sel[i]? = some i) (hd : nodupB sel = true) (hs : SelOk st.mem sel sel rows) (ht : TmOk st sel tm) : Can N Γ st ⟨tm, rows⟩ := fun ρ I a w h => by
  have hnd := nodupB_ok sel hd
  obtain ⟨hlen, hget⟩ := SelOk.get sel rows hs
  have slot : ∀ (tm : List (Nat × PV)), TmOk st sel tm → ∀ t, VRel rows.length (sub sel ρ) I w (look t tm) (a.tmps.getD t undef) := by
    intro tm
    induction tm with
    | nil => intro _ t; trivial
    | cons x tm ih =>
      obtain ⟨s, p⟩ := x
      intro hx t
      simp only [look]
      cases hb : Nat.beq t s
      · exact ih hx.2 t
      · obtain rfl : t = s := Nat.eq_of_beq_eq_true hb
        exact hx.1 _ _ _ _ _ (VRel.ren (inv_ok hlen) _ _ (h.slot t))
  refine ⟨sub sel ρ, I, ⟨h.fr.m.sel hs hnd, h.fr.os, h.fr.tape, h.fr.output, h.fr.size, h.fr.block, h.fr.shape, h.fr.old, h.fr.new, fun i r hi ho hlt => ?_, fun i r hi ho hki => ?_, by simp only; omega, fun l hl => ?_, fun i r hi ho hki => ?_⟩, h.defers, h.size, slot tm ht⟩
  · obtain ⟨l, r0, e1, e2, e3, e4, _⟩ := hget i r hi
    rw [sub_get e1] at hlt ⊢
    exact h.fr.own l r0 e2 (by rw [e4] at ho; exact ho) hlt
  · obtain ⟨l, r0, e1, e2, e3, e4, _⟩ := hget i r hi
    rw [sub_get e1]
    refine h.fr.fresh l r0 e2 (by rw [e4] at ho; exact ho) ?_
    by_cases hlt : l < Γ.k0
    · have := (List.getElem?_inj (getLt e1) hnd).1 (e1.trans (hk.2 l hlt).symm)
      omega
    · omega
  · rw [sub_get (hk.2 l hl)]; exact h.fr.ρ0 l hl
  · obtain ⟨l, r0, e1, e2, e3, e4, _⟩ := hget i r hi
    have e4 : r.s = r0.s := e4
    rw [sub_get e1]
    refine h.fr.sfresh l r0 e2 (by rw [← e4]; exact ho) ?_
    by_cases hlt : l < Γ.k0
    · have := (List.getElem?_inj (getLt e1) hnd).1 (e1.trans (hk.2 l hlt).symm)
      omega
    · omega
end
end Go.Proofs.Ytnlcenlamkfmnaa
