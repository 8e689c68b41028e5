/- Functions that are handed the address of a row and change that row. -/
import Derived.Test.YtnlcenlamkfmnaaPvLib
set_option linter.unusedSimpArgs false
set_option linter.unusedVariables false
namespace Go.Proofs.Ytnlcenlamkfmnaa
open Go.RowKit

/-- the row lies there -/
structure RowIn (ρ : Nat → Loc) (I : Nat → Prop) (w : World) (x : Loc) (row : Row) : Prop where
  own : row.s = .own
  sz : x.sz = row.sz
  cells : ∃ cs T, w.heap[x.b]? = some (Obj.cells cs T (0, 0)) ∧ ∀ i, i < row.n → ∀ j, j < row.sz → ∃ u, cs[x.o + i * row.sz + j]? = some u ∧ u.oneCell' = true ∧ VRel 0 ρ I w (row.f i j) u
/-- all blocks but b are as they were -/
structure KeptBut (b : Nat) (w w' : World) : Prop where
  os : w'.os = w.os
  tape : w'.tape = w.tape
  output : w'.output = w.output
  size : w.heap.size ≤ w'.heap.size
  block : ∀ k, k < w.heap.size → k ≠ b → w'.heap[k]? = w.heap[k]?
  shape : ∀ cs T fz, w.heap[b]? = some (Obj.cells cs T fz) → ∃ cs', w'.heap[b]? = some (Obj.cells cs' T fz) ∧ cs'.size = cs.size
def PtrC (P : Program) (f : FuncId) (row : Row) (args : List PV) (post : PV → Row → Prop) : Prop :=
  CallOk P f ∧ ∀ (ρ : Nat → Loc) (A : Nat → Prop) (w : World) (vs : List Value) (x : Loc), (∀ b, A b → b < w.heap.size) → ¬ A x.b → RowIn ρ A w x row → ARel ρ A w args vs →
    Calls P f (.pointer (some ⟨x.b, x.o, none⟩) :: vs).toArray w fun e w' => ∃ v r row', e = .returned v ∧ post r row' ∧ KeptBut x.b w w' ∧ VRel 0 ρ (fun b => A b ∨ (w.heap.size ≤ b ∧ b < w'.heap.size)) w' r v ∧ RowIn ρ (fun b => A b ∨ (w.heap.size ≤ b ∧ b < w'.heap.size)) w' x row'
theorem PtrC.mono {P : Program} {f : FuncId} {row : Row} {args : List PV} {post post' : PV → Row → Prop} (h : PtrC P f row args post) (hp : ∀ r row', post r row' → post' r row') : PtrC P f row args post' :=
  ⟨h.1, fun ρ A w vs x h1 h2 h3 h4 => (h.2 ρ A w vs x h1 h2 h3 h4).mono fun e w' ⟨v, r, row', g1, g2, g3⟩ => ⟨v, r, row', g1, hp _ _ g2, g3⟩⟩

/-- at the end of such a function -/
structure KretP (tab : List TI) (res : List ResultVar) (post : PV → Row → Prop) (e : Exit) (st : PSt) : Prop where
  go : (e = .normal ∨ e = .ret) ∧ ∃ ps pre L qs row', presl tab st res = some (ps, pre) ∧ pre ∧ (∀ l, l ∈ L → 1 ≤ l) ∧ ArgsOk st.mem L ps qs ∧ rowAt st.mem 0 = some row' ∧ row'.s = .own ∧ (∀ i, i < row'.n → ∀ j, j < row'.sz → Cl (row'.f i j)) ∧ post (pack qs) row'

def rowCl (r : Row) : Prop := ∀ i, i < r.n → ∀ j, j < r.sz → Cl (r.f i j)
def ownB (r : Row) : Bool := match r.s with | .own => true | _ => false
theorem ownB_eq {r : Row} (h : ownB r = true) : r.s = .own := by
  unfold ownB at h
  cases hs : r.s <;> rw [hs] at h <;> first | rfl | cases h
theorem kretp {tab : List TI} {res : List ResultVar} {post : PV → Row → Prop} {st : PSt} {ps : List PV} {pre : Prop} {row' : Row} (h1 : presl tab st res = some (ps, pre)) (h2 : pre) (h3 : clBL ps = true) (h4 : rowAt st.mem 0 = some row') (h5 : ownB row' = true) (h6 : rowCl row') (h7 : post (pack ps) row') : KretP tab res post .ret st :=
  ⟨.inr rfl, ps, pre, [], ps, row', h1, h2, by simp, args_cl ps h3, h4, ownB_eq h5, h6, h7⟩

theorem ptr_of {G : Pg} {f : FuncId} {fn : Func} {body : Code} {row : Row} {args : List PV} {post : PV → Row → Prop} (hf : G.P.funcs[f]? = some fn) (hb : fn.body = some body) (hn : (fn.name == "runtime.NumGoroutine") = false) (hN : Nat.ble (args.length + 1) fn.ntmps = true)
    (h : ∀ Γ : Fr, Γ.k0 = 1 → PWp G fn.ntmps Γ body ⟨argTm 0 (.ptr 0 0 0 :: args), [row]⟩ (KretP G.tab fn.results.toList post)) : PtrC G.P f row args post := by
  refine ⟨callOk_of hf hb hn, fun ρ A w vs x hA hnA hrow ha => ?_⟩
  obtain ⟨hlen, hvs⟩ := arel_nth args vs ha
  have hN' : args.length + 1 ≤ fn.ntmps := Nat.le_of_ble_eq_true hN
  have hown := hrow.own
  obtain ⟨cs, T, hcb, hcell⟩ := hrow.cells
  have hxb : x.b < w.heap.size := by
    by_cases hb : x.b < w.heap.size
    · exact hb
    · rw [Array.getElem?_eq_none (by omega)] at hcb; cases hcb
  let Γ : Fr := { w0 := w, A := A, E := fun b => b = x.b, k0 := 1, ρ0 := fun _ => x }
  refine calls_of_wp hf hb ?_
  have one : ∀ l r, [row][l]? = some r → l = 0 ∧ r = row := fun l r hl => by
    cases l with
    | zero => simp at hl; exact ⟨rfl, hl.symm⟩
    | succ l => simp at hl
  have hrel : Rel fn.ntmps Γ ⟨argTm 0 (.ptr 0 0 0 :: args), [row]⟩ (fun _ => x) A { tmps := (.pointer (some ⟨x.b, x.o, none⟩) :: vs).toArray ++ Array.replicate (fn.ntmps - (Value.pointer (some ⟨x.b, x.o, none⟩) :: vs).toArray.size) undef, defers := [] } w := by
    refine ⟨⟨⟨fun l r hl hs => ?_, fun l l' r r' hne hl hl' => ?_, fun l r hl ho => ?_, fun l r hl hi => ?_, hA, fun l r hl hm => ?_, fun l l' r r' hne hl hl' _ _ => ?_⟩, rfl, rfl, rfl, Nat.le_refl _, fun _ _ _ => rfl, fun b cs T fz hb => ⟨cs, hb, rfl⟩, fun b hb _ => hb, fun b hb => hb, fun l r hl ho _ => rfl, fun l r hl ho hk => ?_, Nat.le_refl _, fun l hl => rfl, fun l r hl hm => ?_⟩, rfl, by simp; omega, fun t => ?_⟩
    · obtain ⟨rfl, rfl⟩ := one l r hl
      exact ⟨hrow.sz, cs, T, hcb, fun i hi j hj => by obtain ⟨u, g1, g2, g3⟩ := hcell i hi j hj; exact ⟨u, g1, g2, g3.of0⟩⟩
    · exact absurd ((one l r hl).1.trans (one l' r' hl').1.symm) hne
    · exact hnA
    · obtain ⟨rfl, rfl⟩ := one l r hl
      rw [hown] at hi; cases hi
    · obtain ⟨rfl, rfl⟩ := one l r hl
      rw [hown] at hm; cases hm
    · exact absurd ((one l r hl).1.trans (one l' r' hl').1.symm) hne
    · obtain ⟨rfl, rfl⟩ := one l r hl
      exact absurd hk (by simp [Γ])
    · obtain ⟨rfl, rfl⟩ := one l r hl
      rw [hown] at hm; cases hm
    · simp only [PSt.get, look_argTm, Nat.zero_le, if_true, Nat.sub_zero, List.length_cons, List.length_nil]
      cases t with
      | zero => exact ⟨by simp, by simp [Array.getD_eq_getD_getElem?, Array.getElem?_append]⟩
      | succ t =>
        simp only [nthP]
        by_cases ht : t < args.length
        · have e : ((Value.pointer (some ⟨x.b, x.o, none⟩) :: vs).toArray ++ Array.replicate (fn.ntmps - (Value.pointer (some ⟨x.b, x.o, none⟩) :: vs).toArray.size) undef).getD (t + 1) undef = vs.getD t undef := by
            simp [Array.getD_eq_getD_getElem?, Array.getElem?_append, show t < vs.length by omega]
          rw [e]; exact (hvs t ht).of0
        · rw [nthP_out _ _ (by omega)]; trivial
  refine wp_mono ((h Γ rfl).go _ A _ w hrel) ?_
  rintro e a' w' ⟨_, st', ρ', I', ⟨⟨he, ps, pre, L, qs, row', hps, hpre, hL, hargs, hrow', hown', hcl', hpost⟩⟩, hr⟩
  obtain ⟨us, hus, hul, hur⟩ := presl_sound G.ok hr _ ps pre hps hpre
  have hq := args_sound hr.fr.m ps qs us hargs hur hul
  have hρ0 : ρ' 0 = x := hr.fr.ρ0 0 (by simp [Γ])
  have hI : ∀ b, I' b → (A b ∨ (w.heap.size ≤ b ∧ b < w'.heap.size)) := fun b hb => by
    by_cases hlt : b < w.heap.size
    · exact .inl (hr.fr.old b hb hlt)
    · exact .inr ⟨by omega, hr.fr.m.lt b hb⟩
  have hsub : ∀ b, ASet ρ' I' st'.mem L b → (A b ∨ (w.heap.size ≤ b ∧ b < w'.heap.size)) := by
    rintro b (hb | ⟨l, r, hl1, hl, hs, rfl⟩)
    · exact hI b hb
    · cases hrs : r.s
      · rw [hrs] at hs; exact hs.elim
      · exact hI _ (hr.fr.m.imm l r hl hrs)
      · exact .inr ⟨hr.fr.fresh l r hl (by rw [hrs]; trivial) (hL l hl1), hr.lt hl hs⟩
      · rw [hrs] at hs; exact hs.elim
      · rw [hrs] at hs; exact hs.elim
  have hx : KeptBut x.b w w' := ⟨hr.fr.os, hr.fr.tape, hr.fr.output, hr.fr.size, fun b hb hne => hr.fr.block b hb (fun h => hne h), fun cs T fz hb => hr.fr.shape _ cs T fz hb⟩
  have hfin : ∃ v, (results fn a'.tmps).run G.P w' = .ok v w' ∧ VRel 0 ρ (fun b => A b ∨ (w.heap.size ≤ b ∧ b < w'.heap.size)) w' (pack qs) v := by
    obtain ⟨ql, qv⟩ := arel_nth qs us hq
    have hrun : (results fn a'.tmps).run G.P w' = .ok (if h : us.toArray.size = 1 then us.toArray[0] else .tuple us.toArray) w' := by
      rw [results_eq]
      simp only [Sem.run_bind, Array.mapM_eq_mapM_toList, Sem.run_map]
      rw [hus]
      simp
    refine ⟨_, hrun, ?_⟩
    have up : ∀ {p : PV} {v : Value}, VRel 0 ρ' (ASet ρ' I' st'.mem L) w' p v → VRel 0 ρ (fun b => A b ∨ (w.heap.size ≤ b ∧ b < w'.heap.size)) w' p v := fun hv =>
      hv.up (Nat.le_refl _) (fun l hl => by omega) hsub (Tr.refl _ _)
    by_cases h1 : us.toArray.size = 1
    · rw [dif_pos h1]
      have h1' : us.length = 1 := by simpa using h1
      obtain ⟨u, rfl⟩ : ∃ u, us = [u] := List.length_eq_one_iff.1 h1'
      obtain ⟨q, rfl⟩ : ∃ q, qs = [q] := List.length_eq_one_iff.1 (by rw [← ql]; exact h1')
      simpa [pack, nthP] using up (qv 0 (by simp))
    · rw [dif_neg h1]
      have hp : pack qs = .tup qs.length (nthP qs) := by
        match qs, ql with
        | [], _ => rfl
        | [q], ql => exact absurd (by simpa using ql) h1
        | _ :: _ :: _, _ => rfl
      rw [hp]
      exact ⟨us.toArray, rfl, by simpa using ql, fun i hi => by simpa using up (qv i hi)⟩
  obtain ⟨v, hv1, hv2⟩ := hfin
  rw [rowAt_get] at hrow'
  have hlive : row'.s.live := by rw [hown']; trivial
  obtain ⟨z1, cs2, T2, z2, z3⟩ := hr.fr.m.row 0 row' hrow' hlive
  rw [hρ0] at z1 z2 z3
  have hrowin : RowIn ρ (fun b => A b ∨ (w.heap.size ≤ b ∧ b < w'.heap.size)) w' x row' := ⟨hown', z1, cs2, T2, z2, fun i hi j hj => by
    obtain ⟨u, g1, g2, g3⟩ := z3 i hi j hj
    exact ⟨u, g1, g2, (VRel.close _ _ 0 _ (hcl' i hi j hj) g3 : VRel 0 ρ I' w' _ _).up (Nat.le_refl _) (fun l hl => by omega) hI (Tr.refl _ _)⟩⟩
  rcases he with rfl | rfl
  · exact ⟨hr.defers, v, hv1, v, pack qs, row', rfl, hpost, hx, hv2, hrowin⟩
  · exact ⟨hr.defers, v, hv1, v, pack qs, row', rfl, hpost, hx, hv2, hrowin⟩

section
variable {G : Pg} {N : Nat} {Γ : Fr} {st : PSt} {ρ : Nat → Loc} {I : Nat → Prop} {a : Act} {w : World}
/-- behind such a call -/
theorem Rel.ptrCall (h : Rel N Γ st ρ I a w) {l : Nat} {row row' : Row} (hl : st.mem[l]? = some row) (ho : row.s = .own) {w' : World} (hk : KeptBut (ρ l).b w w') {I' : Nat → Prop} (hI : ∀ b, I b → I' b) (hI2 : ∀ b, I' b → I b ∨ (w.heap.size ≤ b ∧ b < w'.heap.size)) (hr : RowIn ρ I' w' (ρ l) row') :
    Rel N Γ ⟨st.tm, st.mem.set l row'⟩ ρ I' a w' := by
  have hio : row.s.isOwn := by rw [ho]; trivial
  have hlv := RS.live_of_own hio
  have hlen : l < st.mem.length := lt_get hl
  have hnI : ¬ I (ρ l).b := h.fr.m.mine l row hl hio
  have hlb := h.lt hl hlv
  have ht : Tr I w w' := by
    refine ⟨fun b hb => hk.block b (h.fr.m.lt b hb) (fun e => hnI (e ▸ hb)), fun b cs T fz hb => ?_⟩
    by_cases e : b = (ρ l).b
    · subst e; exact hk.shape cs T fz hb
    · have hlt : b < w.heap.size := by
        by_cases hlt : b < w.heap.size
        · exact hlt
        · rw [Array.getElem?_eq_none (by omega)] at hb; cases hb
      exact ⟨cs, by rw [hk.block b hlt e]; exact hb, rfl⟩
  have up : ∀ {p : PV} {v : Value}, VRel st.mem.length ρ I w p v → VRel (st.mem.set l row').length ρ I' w' p v := fun hv =>
    hv.up (by simp) (fun _ _ => rfl) hI ht
  have get : ∀ l' r', (st.mem.set l row')[l']? = some r' → (l' ≠ l ∧ st.mem[l']? = some r') ∨ (l' = l ∧ r' = row') := fun l' r' hl' => by
    by_cases he : l' = l
    · subst he; rw [List.getElem?_set_self hlen] at hl'; exact .inr ⟨rfl, by simpa using hl'.symm⟩
    · rw [List.getElem?_set_ne (Ne.symm he)] at hl'; exact .inl ⟨he, hl'⟩
  refine ⟨⟨⟨fun l' r' hl' hlive => ?_, fun l1 l2 r1 r2 hne h1 h2 hs1 hs2 => ?_, fun l' r' hl' ho' hb2 => ?_, fun l' r' hl' hi => ?_, fun b hb2 => ?_, fun l' r' hl' hm => ?_, fun l1 l2 r1 r2 hne h1 h2 hs1 hs2 => ?_⟩, hk.os.trans h.fr.os, hk.tape.trans h.fr.tape, hk.output.trans h.fr.output, Nat.le_trans h.fr.size hk.size, fun b hb2 he => ?_, fun b c2 T2 fz hb2 => ?_, fun b hb2 hlt => ?_, fun b hb => hI b (h.fr.new b hb), fun l' r' hl' ho' hlt => ?_, fun l' r' hl' ho' hk' => ?_, by simpa using h.fr.k0, h.fr.ρ0, fun l' r' hl' hm hk' => ?_⟩, h.defers, h.size, fun t => up (h.slot t)⟩
  · rcases get l' r' hl' with ⟨hne, hl'⟩ | ⟨e1, e2⟩
    · obtain ⟨h1, c2, T2, h2, h3⟩ := h.fr.m.row l' r' hl' hlive
      refine ⟨h1, c2, T2, by rw [hk.block _ (h.lt hl' hlive) (h.fr.m.apart l' l r' row hne hl' hl hlive hlv)]; exact h2, fun i hi j hj => ?_⟩
      obtain ⟨u, g1, g2, g3⟩ := h3 i hi j hj
      exact ⟨u, g1, g2, up g3⟩
    · subst e1 e2
      obtain ⟨cs, T, h2, h3⟩ := hr.cells
      exact ⟨hr.sz, cs, T, h2, fun i hi j hj => by obtain ⟨u, g1, g2, g3⟩ := h3 i hi j hj; exact ⟨u, g1, g2, g3.of0⟩⟩
  · rcases get l1 r1 h1 with ⟨n1, hA⟩ | ⟨e1, e2⟩ <;> rcases get l2 r2 h2 with ⟨n2, hB⟩ | ⟨e3, e4⟩
    · exact h.fr.m.apart l1 l2 r1 r2 hne hA hB hs1 hs2
    · rw [e3]; exact h.fr.m.apart l1 l r1 row n1 hA hl hs1 hlv
    · rw [e1]; exact h.fr.m.apart l l2 row r2 (Ne.symm n2) hl hB hlv hs2
    · exact absurd (e1.trans e3.symm) hne
  · have hlt : (ρ l').b < w.heap.size := by
      rcases get l' r' hl' with ⟨n1, h1⟩ | ⟨e1, e2⟩
      · exact h.lt h1 (RS.live_of_own ho')
      · rw [e1]; exact hlb
    rcases hI2 _ hb2 with hb2 | hb2
    · rcases get l' r' hl' with ⟨n1, h1⟩ | ⟨e1, e2⟩
      · exact h.fr.m.mine l' r' h1 ho' hb2
      · rw [e1] at hb2; exact hnI hb2
    · omega
  · rcases get l' r' hl' with ⟨n1, h1⟩ | ⟨e1, e2⟩
    · exact hI _ (h.fr.m.imm l' r' h1 hi)
    · rw [e2, hr.own] at hi; cases hi
  · rcases hI2 b hb2 with hb | hb
    · exact Nat.lt_of_lt_of_le (h.fr.m.lt b hb) hk.size
    · exact hb.2
  · rcases get l' r' hl' with ⟨n1, h1⟩ | ⟨e1, e2⟩
    · obtain ⟨g1, g2⟩ := h.fr.m.side l' r' h1 hm
      obtain ⟨_, cs0, T0, hcb0, _⟩ := h.fr.m.row l row hl hlv
      refine ⟨fun hb => ?_, g2.up (Nat.le_refl _) rfl (.of fun b hb hnc => hk.block b hb fun e => by subst e; exact hnc _ _ _ hcb0) fun i hi j hj v hv => up hv⟩
      rcases hI2 _ hb with hb | hb
      · exact g1 hb
      · have := g2.lt; omega
    · rw [e2, hr.own] at hm; cases hm
  · rcases get l1 r1 h1 with ⟨n1, hA⟩ | ⟨e1, e2⟩ <;> rcases get l2 r2 h2 with ⟨n2, hB⟩ | ⟨e3, e4⟩
    · exact h.fr.m.sap l1 l2 r1 r2 hne hA hB hs1 hs2
    · rw [e4, hr.own] at hs2; cases hs2
    · rw [e2, hr.own] at hs1; cases hs1
    · exact absurd (e1.trans e3.symm) hne
  · by_cases e : b = (ρ l).b
    · exact absurd (h.fr.own l row hl hio (e ▸ hb2)) (e ▸ he)
    · rw [hk.block b (Nat.lt_of_lt_of_le hb2 h.fr.size) e]; exact h.fr.block b hb2 he
  · obtain ⟨cs1, h1, h2⟩ := h.fr.shape b c2 T2 fz hb2
    obtain ⟨cs2, h3, h4⟩ := ht.shape b cs1 T2 fz h1
    exact ⟨cs2, h3, h4.trans h2⟩
  · rcases hI2 b hb2 with hb | hb
    · exact h.fr.old b hb hlt
    · exact absurd (Nat.lt_of_lt_of_le hlt h.fr.size) (by omega)
  · rcases get l' r' hl' with ⟨n1, h1⟩ | ⟨e1, e2⟩
    · exact h.fr.own l' r' h1 ho' hlt
    · rw [e1] at hlt ⊢; exact h.fr.own l row hl hio hlt
  · rcases get l' r' hl' with ⟨n1, h1⟩ | ⟨e1, e2⟩
    · exact h.fr.fresh l' r' h1 ho' hk'
    · rw [e1] at hk' ⊢; exact h.fr.fresh l row hl hio hk'
  · rcases get l' r' hl' with ⟨n1, h1⟩ | ⟨e1, e2⟩
    · exact h.fr.sfresh l' r' h1 hm hk'
    · rw [e2, hr.own] at hm; cases hm

variable {K : Exit → PSt → Prop} {ops : Array Oper} {o : Oper} {rest : List Oper} {d : Nat}
/-- the heart of a call with an address: L: the rows that are handed in besides -/
theorem ptr_core {G : Pg} {f : FuncId} {x x0 : Operand} {xs : List Operand} {args : Array Operand} {tys : Array TypeId} {c : Nat → PV} {l : Nat} {row : Row} {qs : List PV} {post : PV → Row → Prop} {K' : Act → World → Prop} {Q : Exit → Act → World → Prop} (L : List Nat) (hrel : Rel N Γ st ρ I a w)
    (ho : o.op = .call ⟨.value x, args, tys⟩) (hx : st.ev x = .clo f 0 c) (ha0 : args.toList = x0 :: xs) (hp : st.ev x0 = .ptr l 0 0) (hrow : st.mem[l]? = some row) (hown : row.s = .own) (hcl : rowCl row) (hlL : l ∉ L)
    (hc : PtrC G.P f row qs post) (ha : ArgsOk st.mem L (xs.map st.ev) qs)
    (h : ∀ v r row' w', post r row' → KeptBut (ρ l).b w w' → VRel 0 ρ (fun b => ASet ρ I st.mem L b ∨ (w.heap.size ≤ b ∧ b < w'.heap.size)) w' r v → RowIn ρ (fun b => ASet ρ I st.mem L b ∨ (w.heap.size ≤ b ∧ b < w'.heap.size)) w' (ρ l) row' → K' (a.put o.dst v) w') : o.wp G.P a w K' Q := by
  have hio : row.s.isOwn := by rw [hown]; trivial
  have hlv := RS.live_of_own hio
  have hxe := ev_rel hrel x
  rw [hx] at hxe
  obtain ⟨cap, e1, e2, _⟩ := hxe
  have e3 : cap = #[] := by simpa using e2
  subst e3
  have hpe := ev_rel hrel x0
  rw [hp] at hpe
  obtain ⟨hsz, cs, T, hcb, hcell⟩ := hrel.fr.m.row l row hrow hlv
  simp only [Oper.wp, call_run hc.1 ho e1, Oper.upon_enter]
  have hA := args_sound hrel.fr.m _ qs (xs.map a.eval) ha (fun i hi => evs_rel hrel xs i hi) (by simp)
  have hnA : ¬ ASet ρ I st.mem L (ρ l).b := by
    rintro (hb | ⟨l', r', hl', hr', hs', he⟩)
    · exact hrel.fr.m.mine l row hrow hio hb
    · by_cases e : l = l'
      · subst e; exact hlL hl'
      · exact hrel.fr.m.apart l l' row r' e hrow hr' hlv hs' he
  have hin : RowIn ρ (ASet ρ I st.mem L) w (ρ l) row := ⟨hown, hsz, cs, T, hcb, fun i hi j hj => by
    obtain ⟨u, g1, g2, g3⟩ := hcell i hi j hj
    exact ⟨u, g1, g2, (VRel.close _ _ 0 _ (hcl i hi j hj) g3 : VRel 0 ρ I w _ _).up (Nat.le_refl _) (fun _ _ => rfl) (fun b hb => .inl hb) (Tr.refl _ _)⟩⟩
  have hcall := hc.2 ρ (ASet ρ I st.mem L) w (xs.map a.eval) (ρ l) (fun b hb => by
    rcases hb with hb | ⟨l', r', _, hr', hs', rfl⟩
    · exact hrel.fr.m.lt b hb
    · exact hrel.lt hr' hs') hnA hin hA
  have eargs : (args.map a.eval ++ #[]) = (Value.pointer (some ⟨(ρ l).b, (ρ l).o, none⟩) :: xs.map a.eval).toArray := by
    apply Array.ext'
    simp only [Array.toList_append, Array.toList_map, ha0, List.map_cons, List.append_nil]
    rw [hpe.2]; simp
  rw [eargs]
  refine hcall.mono ?_
  rintro e w' ⟨v, r, row', rfl, hpost, hk, hv, hrin⟩
  exact h v r row' w' hpost hk hv hrin
theorem frzL_keep (L : List Nat) : ∀ (m : List Row) (s l : Nat) (r : Row), m[l]? = some r → s + l ∉ L → (frzL L s m)[l]? = some r
  | [], _, _, _, h, _ => by simp at h
  | r0 :: m, s, 0, r, h, hl => by
    simp only [List.getElem?_cons_zero, Option.some.injEq] at h
    subst h
    have : L.any (Nat.beq s) = false := by
      cases ha : L.any (Nat.beq s)
      · rfl
      · exact absurd ((any_beq L s).1 ha) hl
    simp [frzL, this]
  | r0 :: m, s, l + 1, r, h, hl => by
    simp only [frzL, List.getElem?_cons_succ]
    exact frzL_keep L m (s + 1) l r (by simpa using h) (by rw [show s + 1 + l = s + (l + 1) by omega]; exact hl)
/-- a call with an address; L: rows handed in besides: they are not changed any more -/
theorem pop_ptr {G : Pg} {f : FuncId} {x x0 : Operand} {xs : List Operand} {args : Array Operand} {tys : Array TypeId} {c : Nat → PV} {l : Nat} {row : Row} {qs : List PV} {post : PV → Row → Prop} {m : Row → List Row} (L : List Nat) (hg : o.guard = none) (hd : o.dst = some d) (hN : Nat.blt d N = true) (ho : o.op = .call ⟨.value x, args, tys⟩) (hx : st.ev x = .clo f 0 c) (ha0 : args.toList = x0 :: xs) (hp : st.ev x0 = .ptr l 0 0) (hrow : rowAt st.mem l = some row) (hown : ownB row = true) (hm : ∀ row', frzK L st.mem 0 (fun m0 => setM m0 l row' some) = some (m row')) (hlL : (L.any (Nat.beq l)) = false)
    (hcl : rowCl row) (hLk : ∀ l', l' ∈ L → Γ.k0 ≤ l') (hc : PtrC G.P f row qs post) (ha : ArgsOk st.mem L (xs.map st.ev) qs)
    (h : ∀ r row', post r row' → POps G N Γ ops rest (PSt.put ⟨st.tm, m row'⟩ d r) K) : POps G N Γ ops (o :: rest) st K := .mk fun ρ I a w hrel => by
  have hw : Region.wanted o (yielded ops a.tmps) = true := by simp [Region.wanted, hg]
  simp only [wpList, hw, if_true]
  rw [rowAt_get] at hrow
  have hlL' : l ∉ L := fun hl => by rw [(any_beq L l).2 hl] at hlL; cases hlL
  refine .inl (ptr_core L hrel ho hx ha0 hp hrow (ownB_eq hown) hcl hlL' hc ha ?_)
  intro v r row' w' hpost hk hv hrin
  have hkk := h r row' hpost
  have hmm : m row' = (frzL L 0 st.mem).set l row' := by have := hm row'; rw [frzK_eq, setM_eq] at this; simpa using this.symm
  simp only [hd]
  have hfr := hrel.freeze L hLk
  have hrel' := hfr.ptrCall (frzL_keep L st.mem 0 l row hrow (by simpa using hlL')) (ownB_eq hown) hk (I' := fun b => ASet ρ I st.mem L b ∨ (w.heap.size ≤ b ∧ b < w'.heap.size)) (fun b hb => .inl hb) (fun b hb => hb) hrin
  rw [← hmm] at hrel'
  exact hkk.go ρ _ _ w' (hrel'.put (by rwa [Nat.blt_eq] at hN) hv.of0)
/-- .. whose arguments are closed and whose result is told -/
theorem pop_ptrc {G : Pg} {f : FuncId} {x x0 : Operand} {xs : List Operand} {args : Array Operand} {tys : Array TypeId} {c : Nat → PV} {l : Nat} {row : Row} {qs : List PV} {post : PV → Row → Prop} {m : Row → List Row} (hg : o.guard = none) (hd : o.dst = some d) (hN : Nat.blt d N = true) (ho : o.op = .call ⟨.value x, args, tys⟩) (hx : st.ev x = .clo f 0 c) (ha0 : args.toList = x0 :: xs) (hp : st.ev x0 = .ptr l 0 0) (hrow : rowAt st.mem l = some row) (hown : ownB row = true) (hm : ∀ row', frzK [] st.mem 0 (fun m0 => setM m0 l row' some) = some (m row'))
    (hcl : rowCl row) (hc : PtrC G.P f row qs post) (hq : xs.map st.ev = qs) (hclq : clBL qs = true)
    (h : ∀ r row', post r row' → POps G N Γ ops rest (PSt.put ⟨st.tm, m row'⟩ d r) K) : POps G N Γ ops (o :: rest) st K :=
  pop_ptr [] hg hd hN ho hx ha0 hp hrow hown hm rfl hcl (by simp) hc (by subst hq; exact args_cl _ hclq) h
/-- a call of a function of values with a closed result -/
theorem pop_callc {G : Pg} {f : FuncId} {x : Operand} {args : Array Operand} {tys : Array TypeId} {c : Nat → PV} {qs : List PV} {post : PV → Prop} {m : List Row} (L : List Nat) (hg : o.guard = none) (hd : o.dst = some d) (hN : Nat.blt d N = true) (ho : o.op = .call ⟨.value x, args, tys⟩) (hx : st.ev x = .clo f 0 c) (hm0 : frzK L st.mem 0 some = some m) (hLk : ∀ l', l' ∈ L → Γ.k0 ≤ l')
    (hc : PureC G.P f qs post) (ha : ArgsOk st.mem L (args.toList.map st.ev) qs) (h : ∀ r, post r → POps G N Γ ops rest (PSt.put ⟨st.tm, m⟩ d r) K) : POps G N Γ ops (o :: rest) st K := .mk fun ρ I a w hrel => by
  have hm : frzL L 0 st.mem = m := by rw [frzK_eq] at hm0; simpa using hm0
  have hw : Region.wanted o (yielded ops a.tmps) = true := by simp [Region.wanted, hg]
  simp only [wpList, hw, if_true]
  refine .inl ?_
  have hxe := ev_rel hrel x
  rw [hx] at hxe
  obtain ⟨cap, e1, e2, _⟩ := hxe
  have e3 : cap = #[] := by simpa using e2
  subst e3
  simp only [Oper.wp, call_run hc.1 ho e1, Oper.upon_enter]
  have hA := args_sound hrel.fr.m _ qs (args.toList.map a.eval) ha (fun i hi => evs_rel hrel args.toList i hi) (by simp)
  have hcall := hc.2 ρ (ASet ρ I st.mem L) w (args.toList.map a.eval) (fun b hb => by
    rcases hb with hb | ⟨l, r, _, hr, hs, rfl⟩
    · exact hrel.fr.m.lt b hb
    · exact hrel.lt hr hs) hA
  have eargs : (args.map a.eval ++ #[]) = (args.toList.map a.eval).toArray := by apply Array.ext'; simp
  rw [eargs]
  refine hcall.mono ?_
  rintro e w' ⟨v, r, rfl, hpost, hext, hv⟩
  simp only [hd]
  have hfr := (hrel.freeze L hLk).ext hext (I' := fun b => ASet ρ I st.mem L b ∨ (w.heap.size ≤ b ∧ b < w'.heap.size)) (fun b hb => .inl hb) (fun b hb => hb)
  rw [hm] at hfr
  exact (h r hpost).go ρ _ _ w' (hfr.put (by rwa [Nat.blt_eq] at hN) hv.of0)
end
end Go.Proofs.Ytnlcenlamkfmnaa
