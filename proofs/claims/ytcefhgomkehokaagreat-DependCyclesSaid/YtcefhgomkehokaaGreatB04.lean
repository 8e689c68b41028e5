/- Functions that are handed the address of a row and change that row. -/
import Derived.Test.YtcefhgomkehokaaGreatB03
import Derived.Deep.AppendSrc
set_option linter.unusedSimpArgs false
set_option linter.unusedVariables false
namespace Go.Proofs.YtcefhgomkehokaaGreat
open Go.RowKit
structure RowIn (ρ : Nat → Loc) (I : Nat → Prop) (w : World) (x : Loc) (row : Row) : Prop where
  own : row.s = .own
  sz : x.sz = row.sz
  cells : ∃ cs T, w.heap[x.b]? = some (Obj.cells cs T (0, 0)) ∧ ∀ i, i < row.n → ∀ j, j < row.sz → ∃ u, cs[x.o + i * row.sz + j]? = some u ∧ u.oneCell' = true ∧ VRel 0 ρ I w (row.f i j) u
structure KeptBut (b : Nat) (w w' : World) : Prop where
  os : w'.os = w.os
  tape : w'.tape = w.tape
  output : w'.output = w.output
  size : w.heap.size ≤ w'.heap.size
  block : ∀ k, k < w.heap.size → k ≠ b → w'.heap[k]? = w.heap[k]?
  shape : ∀ cs T fz, w.heap[b]? = some (Obj.cells cs T fz) → ∃ cs', w'.heap[b]? = some (Obj.cells cs' T fz) ∧ cs'.size = cs.size
def PtrC (P : Program) (f : FuncId) (row : Row) (args : List PV) (post : PV → Row → Prop) : Prop :=
  CallOk P f ∧ ∀ (ρ : Nat → Loc) (A : Nat → Prop) (w : World) (vs : List Value) (x : Loc), (∀ b, A b → b < w.heap.size) → GOk A w → ¬ A x.b → RowIn ρ A w x row → ARel ρ A w args vs →
    Calls P f (.pointer (some ⟨x.b, x.o, none⟩) :: vs).toArray w fun e w' => ∃ v r row', e = .returned v ∧ post r row' ∧ KeptBut x.b w w' ∧ VRel 0 ρ (fun b => A b ∨ (w.heap.size ≤ b ∧ b < w'.heap.size)) w' r v ∧ RowIn ρ (fun b => A b ∨ (w.heap.size ≤ b ∧ b < w'.heap.size)) w' x row'
theorem PtrC.mono {P : Program} {f : FuncId} {row : Row} {args : List PV} {post post' : PV → Row → Prop} (h : PtrC P f row args post) (hp : ∀ r row', post r row' → post' r row') : PtrC P f row args post' :=
  ⟨h.1, fun ρ A w vs x h1 hG h2 h3 h4 => (h.2 ρ A w vs x h1 hG h2 h3 h4).mono fun e w' ⟨v, r, row', g1, g2, g3⟩ => ⟨v, r, row', g1, hp _ _ g2, g3⟩⟩
structure KretP (tab : List TI) (res : List ResultVar) (post : PV → Row → Prop) (e : Exit) (st : PSt) : Prop where
  go : (e = .normal ∨ e = .ret) ∧ ∃ ps pre L qs row', presl tab st res = some (ps, pre) ∧ pre ∧ (∀ l, l ∈ L → 1 ≤ l) ∧ ArgsOk st.mem L ps qs ∧ rowAt st.mem 0 = some row' ∧ row'.s = .own ∧ (∀ i, i < row'.n → ∀ j, j < row'.sz → Cl (row'.f i j)) ∧ post (pack qs) row'
def rowCl (r : Row) : Prop := ∀ i, i < r.n → ∀ j, j < r.sz → Cl (r.f i j)
def ownB (r : Row) : Bool := match r.s with | .own => true | _ => false
theorem ownB_eq {r : Row} (h : ownB r = true) : r.s = .own := by
  unfold ownB at h
  cases hs : r.s <;> rw [hs] at h <;> first | rfl | cases h
theorem kretp {tab : List TI} {res : List ResultVar} {post : PV → Row → Prop} {st : PSt} {ps : List PV} {pre : Prop} {row' : Row} (h1 : presl tab st res = some (ps, pre)) (h2 : pre) (h3 : clBL ps = true) (h4 : rowAt st.mem 0 = some row') (h5 : ownB row' = true) (h6 : rowCl row') (h7 : post (pack ps) row') : KretP tab res post .ret st :=
  ⟨.inr rfl, ps, pre, [], ps, row', h1, h2, by simp, args_cl ps h3, h4, ownB_eq h5, h6, h7⟩
theorem ptr_of {G : Pg} {f : FuncId} {fn : Func} {body : Code} {row : Row} {args : List PV} {post : PV → Row → Prop} (hf : G.P.funcs[f]? = some fn) (hb : fn.body = some body) (hn : (fn.name == "runtime.NumGoroutine") = false) (hN : Nat.ble (args.length + 1) fn.ntmps = true)
    (h : ∀ Γ : Fr, Γ.k0 = 1 → PWp G fn.ntmps Γ body ⟨argTm 0 (.ptr 0 0 0 :: args), [row]⟩ (KretP G.tab fn.results.toList post)) : PtrC G.P f row args post := by
  refine ⟨callOk_of hf hb hn, fun ρ A w vs x hA hG hnA hrow ha => ?_⟩
  obtain ⟨hlen, hvs⟩ := arel_nth args vs ha
  have hN' : args.length + 1 ≤ fn.ntmps := Nat.le_of_ble_eq_true hN
  have hown := hrow.own
  obtain ⟨cs, T, hcb, hcell⟩ := hrow.cells
  have hxb : x.b < w.heap.size := by
    by_cases hb : x.b < w.heap.size
    · exact hb
    · rw [Array.getElem?_eq_none (by omega)] at hcb; cases hcb
  let Γ : Fr := { w0 := w, A := A, E := fun b => b = x.b, k0 := 1, ρ0 := fun _ => x }
  refine calls_of_wp hf hb ?_
  have one : ∀ l r, [row][l]? = some r → l = 0 ∧ r = row := fun l r hl => by
    cases l with
    | zero => simp at hl; exact ⟨rfl, hl.symm⟩
    | succ l => simp at hl
  have hrel : Rel fn.ntmps Γ ⟨argTm 0 (.ptr 0 0 0 :: args), [row]⟩ (fun _ => x) A { tmps := (.pointer (some ⟨x.b, x.o, none⟩) :: vs).toArray ++ Array.replicate (fn.ntmps - (Value.pointer (some ⟨x.b, x.o, none⟩) :: vs).toArray.size) undef, defers := [] } w := by
    refine ⟨⟨⟨fun l r hl hs => ?_, fun l l' r r' hne hl hl' => ?_, fun l r hl ho => ?_, fun l r hl hi => ?_, hA, fun l r hl hm => ?_, fun l l' r r' hne hl hl' _ _ => ?_⟩, rfl, rfl, rfl, Nat.le_refl _, fun _ _ _ => rfl, fun b cs T fz hb => ⟨cs, hb, rfl⟩, fun b hb _ => hb, fun b hb => hb, fun l r hl ho _ => rfl, fun l r hl ho hk => ?_, Nat.le_refl _, fun l hl => rfl, fun l r hl hm => ?_, hG⟩, rfl, by simp; omega, fun t => ?_⟩
    · obtain ⟨rfl, rfl⟩ := one l r hl
      exact ⟨hrow.sz, cs, T, hcb, fun i hi j hj => by obtain ⟨u, g1, g2, g3⟩ := hcell i hi j hj; exact ⟨u, g1, g2, g3.of0⟩⟩
    · exact absurd ((one l r hl).1.trans (one l' r' hl').1.symm) hne
    · exact hnA
    · obtain ⟨rfl, rfl⟩ := one l r hl
      rw [hown] at hi; cases hi
    · obtain ⟨rfl, rfl⟩ := one l r hl
      rw [hown] at hm; cases hm
    · exact absurd ((one l r hl).1.trans (one l' r' hl').1.symm) hne
    · obtain ⟨rfl, rfl⟩ := one l r hl
      exact absurd hk (by simp [Γ])
    · obtain ⟨rfl, rfl⟩ := one l r hl
      rw [hown] at hm; cases hm
    · simp only [PSt.get, look_argTm, Nat.zero_le, if_true, Nat.sub_zero, List.length_cons, List.length_nil]
      cases t with
      | zero => exact ⟨by simp, by simp [Array.getD_eq_getD_getElem?, Array.getElem?_append]⟩
      | succ t =>
        simp only [nthP]
        by_cases ht : t < args.length
        · have e : ((Value.pointer (some ⟨x.b, x.o, none⟩) :: vs).toArray ++ Array.replicate (fn.ntmps - (Value.pointer (some ⟨x.b, x.o, none⟩) :: vs).toArray.size) undef).getD (t + 1) undef = vs.getD t undef := by
            simp [Array.getD_eq_getD_getElem?, Array.getElem?_append, show t < vs.length by omega]
          rw [e]; exact (hvs t ht).of0
        · rw [nthP_out _ _ (by omega)]; trivial
  refine wp_mono ((h Γ rfl).go _ A _ w hrel) ?_
  rintro e a' w' ⟨_, st', ρ', I', ⟨⟨he, ps, pre, L, qs, row', hps, hpre, hL, hargs, hrow', hown', hcl', hpost⟩⟩, hr⟩
  obtain ⟨us, hus, hul, hur⟩ := presl_sound G.ok hr _ ps pre hps hpre
  have hq := args_sound hr.fr.m ps qs us hargs hur hul
  have hρ0 : ρ' 0 = x := hr.fr.ρ0 0 (by simp [Γ])
  have hI : ∀ b, I' b → (A b ∨ (w.heap.size ≤ b ∧ b < w'.heap.size)) := fun b hb => by
    by_cases hlt : b < w.heap.size
    · exact .inl (hr.fr.old b hb hlt)
    · exact .inr ⟨by omega, hr.fr.m.lt b hb⟩
  have hsub : ∀ b, ASet ρ' I' st'.mem L b → (A b ∨ (w.heap.size ≤ b ∧ b < w'.heap.size)) := by
    rintro b (hb | ⟨l, r, hl1, hl, hs, rfl⟩)
    · exact hI b hb
    · cases hrs : r.s
      · rw [hrs] at hs; exact hs.elim
      · exact hI _ (hr.fr.m.imm l r hl hrs)
      · exact .inr ⟨hr.fr.fresh l r hl (by rw [hrs]; trivial) (hL l hl1), hr.lt hl hs⟩
      · rw [hrs] at hs; exact hs.elim
      · rw [hrs] at hs; exact hs.elim
  have hx : KeptBut x.b w w' := ⟨hr.fr.os, hr.fr.tape, hr.fr.output, hr.fr.size, fun b hb hne => hr.fr.block b hb (fun h => hne h), fun cs T fz hb => hr.fr.shape _ cs T fz hb⟩
  have hfin : ∃ v, (results fn a'.tmps).run G.P w' = .ok v w' ∧ VRel 0 ρ (fun b => A b ∨ (w.heap.size ≤ b ∧ b < w'.heap.size)) w' (pack qs) v := by
    obtain ⟨ql, qv⟩ := arel_nth qs us hq
    have hrun : (results fn a'.tmps).run G.P w' = .ok (if h : us.toArray.size = 1 then us.toArray[0] else .tuple us.toArray) w' := by
      rw [results_eq]
      simp only [Sem.run_bind, Array.mapM_eq_mapM_toList, Sem.run_map]
      rw [hus]
      simp
    refine ⟨_, hrun, ?_⟩
    have up : ∀ {p : PV} {v : Value}, VRel 0 ρ' (ASet ρ' I' st'.mem L) w' p v → VRel 0 ρ (fun b => A b ∨ (w.heap.size ≤ b ∧ b < w'.heap.size)) w' p v := fun hv =>
      hv.up (Nat.le_refl _) (fun l hl => by omega) hsub (Tr.refl _ _)
    by_cases h1 : us.toArray.size = 1
    · rw [dif_pos h1]
      have h1' : us.length = 1 := by simpa using h1
      obtain ⟨u, rfl⟩ : ∃ u, us = [u] := List.length_eq_one_iff.1 h1'
      obtain ⟨q, rfl⟩ : ∃ q, qs = [q] := List.length_eq_one_iff.1 (by rw [← ql]; exact h1')
      simpa [pack, nthP] using up (qv 0 (by simp))
    · rw [dif_neg h1]
      have hp : pack qs = .tup qs.length (nthP qs) := by
        match qs, ql with
        | [], _ => rfl
        | [q], ql => exact absurd (by simpa using ql) h1
        | _ :: _ :: _, _ => rfl
      rw [hp]
      exact ⟨us.toArray, rfl, by simpa using ql, fun i hi => by simpa using up (qv i hi)⟩
  obtain ⟨v, hv1, hv2⟩ := hfin
  rw [rowAt_get] at hrow'
  have hlive : row'.s.live := by rw [hown']; trivial
  obtain ⟨z1, cs2, T2, z2, z3⟩ := hr.fr.m.row 0 row' hrow' hlive
  rw [hρ0] at z1 z2 z3
  have hrowin : RowIn ρ (fun b => A b ∨ (w.heap.size ≤ b ∧ b < w'.heap.size)) w' x row' := ⟨hown', z1, cs2, T2, z2, fun i hi j hj => by
    obtain ⟨u, g1, g2, g3⟩ := z3 i hi j hj
    exact ⟨u, g1, g2, (VRel.close _ _ 0 _ (hcl' i hi j hj) g3 : VRel 0 ρ I' w' _ _).up (Nat.le_refl _) (fun l hl => by omega) hI (Tr.refl _ _)⟩⟩
  rcases he with rfl | rfl
  · exact ⟨hr.defers, v, hv1, v, pack qs, row', rfl, hpost, hx, hv2, hrowin⟩
  · exact ⟨hr.defers, v, hv1, v, pack qs, row', rfl, hpost, hx, hv2, hrowin⟩
section
variable {G : Pg} {N : Nat} {Γ : Fr} {st : PSt} {ρ : Nat → Loc} {I : Nat → Prop} {a : Act} {w : World}
theorem Rel.ptrCall (h : Rel N Γ st ρ I a w) {l : Nat} {row row' : Row} (hl : st.mem[l]? = some row) (ho : row.s = .own) {w' : World} (hk : KeptBut (ρ l).b w w') {I' : Nat → Prop} (hI : ∀ b, I b → I' b) (hI2 : ∀ b, I' b → I b ∨ (w.heap.size ≤ b ∧ b < w'.heap.size)) (hr : RowIn ρ I' w' (ρ l) row') :
    Rel N Γ ⟨st.tm, st.mem.set l row'⟩ ρ I' a w' := by
  have hio : row.s.isOwn := by rw [ho]; trivial
  have hlv := RS.live_of_own hio
  have hlen : l < st.mem.length := lt_get hl
  have hnI : ¬ I (ρ l).b := h.fr.m.mine l row hl hio
  have hlb := h.lt hl hlv
  have ht : Tr I w w' := by
    refine ⟨fun b hb => hk.block b (h.fr.m.lt b hb) (fun e => hnI (e ▸ hb)), fun b cs T fz hb => ?_⟩
    by_cases e : b = (ρ l).b
    · subst e; exact hk.shape cs T fz hb
    · have hlt : b < w.heap.size := by
        by_cases hlt : b < w.heap.size
        · exact hlt
        · rw [Array.getElem?_eq_none (by omega)] at hb; cases hb
      exact ⟨cs, by rw [hk.block b hlt e]; exact hb, rfl⟩
  have up : ∀ {p : PV} {v : Value}, VRel st.mem.length ρ I w p v → VRel (st.mem.set l row').length ρ I' w' p v := fun hv =>
    hv.up (by simp) (fun _ _ => rfl) hI ht
  have get : ∀ l' r', (st.mem.set l row')[l']? = some r' → (l' ≠ l ∧ st.mem[l']? = some r') ∨ (l' = l ∧ r' = row') := fun l' r' hl' => by
    by_cases he : l' = l
    · subst he; rw [List.getElem?_set_self hlen] at hl'; exact .inr ⟨rfl, by simpa using hl'.symm⟩
    · rw [List.getElem?_set_ne (Ne.symm he)] at hl'; exact .inl ⟨he, hl'⟩
  refine ⟨⟨⟨fun l' r' hl' hlive => ?_, fun l1 l2 r1 r2 hne h1 h2 hs1 hs2 => ?_, fun l' r' hl' ho' hb2 => ?_, fun l' r' hl' hi => ?_, fun b hb2 => ?_, fun l' r' hl' hm => ?_, fun l1 l2 r1 r2 hne h1 h2 hs1 hs2 => ?_⟩, hk.os.trans h.fr.os, hk.tape.trans h.fr.tape, hk.output.trans h.fr.output, Nat.le_trans h.fr.size hk.size, fun b hb2 he => ?_, fun b c2 T2 fz hb2 => ?_, fun b hb2 hlt => ?_, fun b hb => hI b (h.fr.new b hb), fun l' r' hl' ho' hlt => ?_, fun l' r' hl' ho' hk' => ?_, by simpa using h.fr.k0, h.fr.ρ0, fun l' r' hl' hm hk' => ?_, h.fr.gl.mono hI ht⟩, h.defers, h.size, fun t => up (h.slot t)⟩
  · rcases get l' r' hl' with ⟨hne, hl'⟩ | ⟨e1, e2⟩
    · obtain ⟨h1, c2, T2, h2, h3⟩ := h.fr.m.row l' r' hl' hlive
      refine ⟨h1, c2, T2, by rw [hk.block _ (h.lt hl' hlive) (h.fr.m.apart l' l r' row hne hl' hl hlive hlv)]; exact h2, fun i hi j hj => ?_⟩
      obtain ⟨u, g1, g2, g3⟩ := h3 i hi j hj
      exact ⟨u, g1, g2, up g3⟩
    · subst e1 e2
      obtain ⟨cs, T, h2, h3⟩ := hr.cells
      exact ⟨hr.sz, cs, T, h2, fun i hi j hj => by obtain ⟨u, g1, g2, g3⟩ := h3 i hi j hj; exact ⟨u, g1, g2, g3.of0⟩⟩
  · rcases get l1 r1 h1 with ⟨n1, hA⟩ | ⟨e1, e2⟩ <;> rcases get l2 r2 h2 with ⟨n2, hB⟩ | ⟨e3, e4⟩
    · exact h.fr.m.apart l1 l2 r1 r2 hne hA hB hs1 hs2
    · rw [e3]; exact h.fr.m.apart l1 l r1 row n1 hA hl hs1 hlv
    · rw [e1]; exact h.fr.m.apart l l2 row r2 (Ne.symm n2) hl hB hlv hs2
    · exact absurd (e1.trans e3.symm) hne
  · have hlt : (ρ l').b < w.heap.size := by
      rcases get l' r' hl' with ⟨n1, h1⟩ | ⟨e1, e2⟩
      · exact h.lt h1 (RS.live_of_own ho')
      · rw [e1]; exact hlb
    rcases hI2 _ hb2 with hb2 | hb2
    · rcases get l' r' hl' with ⟨n1, h1⟩ | ⟨e1, e2⟩
      · exact h.fr.m.mine l' r' h1 ho' hb2
      · rw [e1] at hb2; exact hnI hb2
    · omega
  · rcases get l' r' hl' with ⟨n1, h1⟩ | ⟨e1, e2⟩
    · exact hI _ (h.fr.m.imm l' r' h1 hi)
    · rw [e2, hr.own] at hi; cases hi
  · rcases hI2 b hb2 with hb | hb
    · exact Nat.lt_of_lt_of_le (h.fr.m.lt b hb) hk.size
    · exact hb.2
  · rcases get l' r' hl' with ⟨n1, h1⟩ | ⟨e1, e2⟩
    · obtain ⟨g1, g2⟩ := h.fr.m.side l' r' h1 hm
      obtain ⟨_, cs0, T0, hcb0, _⟩ := h.fr.m.row l row hl hlv
      refine ⟨fun hb => ?_, g2.up (Nat.le_refl _) rfl (.of fun b hb hnc => hk.block b hb fun e => by subst e; exact hnc _ _ _ hcb0) fun i hi j hj v hv => up hv⟩
      rcases hI2 _ hb with hb | hb
      · exact g1 hb
      · have := g2.lt; omega
    · rw [e2, hr.own] at hm; cases hm
  · rcases get l1 r1 h1 with ⟨n1, hA⟩ | ⟨e1, e2⟩ <;> rcases get l2 r2 h2 with ⟨n2, hB⟩ | ⟨e3, e4⟩
    · exact h.fr.m.sap l1 l2 r1 r2 hne hA hB hs1 hs2
    · rw [e4, hr.own] at hs2; cases hs2
    · rw [e2, hr.own] at hs1; cases hs1
    · exact absurd (e1.trans e3.symm) hne
  · by_cases e : b = (ρ l).b
    · exact absurd (h.fr.own l row hl hio (e ▸ hb2)) (e ▸ he)
    · rw [hk.block b (Nat.lt_of_lt_of_le hb2 h.fr.size) e]; exact h.fr.block b hb2 he
  · obtain ⟨cs1, h1, h2⟩ := h.fr.shape b c2 T2 fz hb2
    obtain ⟨cs2, h3, h4⟩ := ht.shape b cs1 T2 fz h1
    exact ⟨cs2, h3, h4.trans h2⟩
  · rcases hI2 b hb2 with hb | hb
    · exact h.fr.old b hb hlt
    · exact absurd (Nat.lt_of_lt_of_le hlt h.fr.size) (by omega)
  · rcases get l' r' hl' with ⟨n1, h1⟩ | ⟨e1, e2⟩
    · exact h.fr.own l' r' h1 ho' hlt
    · rw [e1] at hlt ⊢; exact h.fr.own l row hl hio hlt
  · rcases get l' r' hl' with ⟨n1, h1⟩ | ⟨e1, e2⟩
    · exact h.fr.fresh l' r' h1 ho' hk'
    · rw [e1] at hk' ⊢; exact h.fr.fresh l row hl hio hk'
  · rcases get l' r' hl' with ⟨n1, h1⟩ | ⟨e1, e2⟩
    · exact h.fr.sfresh l' r' h1 hm hk'
    · rw [e2, hr.own] at hm; cases hm
variable {K : Exit → PSt → Prop} {ops : Array Oper} {o : Oper} {rest : List Oper} {d : Nat}
theorem ptr_core {G : Pg} {f : FuncId} {x x0 : Operand} {xs : List Operand} {args : Array Operand} {tys : Array TypeId} {c : Nat → PV} {l : Nat} {row : Row} {qs : List PV} {post : PV → Row → Prop} {K' : Act → World → Prop} {Q : Exit → Act → World → Prop} (L : List Nat) (hrel : Rel N Γ st ρ I a w)
    (ho : o.op = .call ⟨.value x, args, tys⟩) (hx : st.ev x = .clo f 0 c) (ha0 : args.toList = x0 :: xs) (hp : st.ev x0 = .ptr l 0 0) (hrow : st.mem[l]? = some row) (hown : row.s = .own) (hcl : rowCl row) (hlL : l ∉ L)
    (hc : PtrC G.P f row qs post) (ha : ArgsOk st.mem L (xs.map st.ev) qs)
    (h : ∀ v r row' w', post r row' → KeptBut (ρ l).b w w' → VRel 0 ρ (fun b => ASet ρ I st.mem L b ∨ (w.heap.size ≤ b ∧ b < w'.heap.size)) w' r v → RowIn ρ (fun b => ASet ρ I st.mem L b ∨ (w.heap.size ≤ b ∧ b < w'.heap.size)) w' (ρ l) row' → K' (a.put o.dst v) w') : o.wp G.P a w K' Q := by
  have hio : row.s.isOwn := by rw [hown]; trivial
  have hlv := RS.live_of_own hio
  have hxe := ev_rel hrel x
  rw [hx] at hxe
  obtain ⟨cap, e1, e2, _⟩ := hxe
  have e3 : cap = #[] := by simpa using e2
  subst e3
  have hpe := ev_rel hrel x0
  rw [hp] at hpe
  obtain ⟨hsz, cs, T, hcb, hcell⟩ := hrel.fr.m.row l row hrow hlv
  simp only [Oper.wp, call_run hc.1 ho e1, Oper.upon_enter]
  have hA := args_sound hrel.fr.m _ qs (xs.map a.eval) ha (fun i hi => evs_rel hrel xs i hi) (by simp)
  have hnA : ¬ ASet ρ I st.mem L (ρ l).b := by
    rintro (hb | ⟨l', r', hl', hr', hs', he⟩)
    · exact hrel.fr.m.mine l row hrow hio hb
    · by_cases e : l = l'
      · subst e; exact hlL hl'
      · exact hrel.fr.m.apart l l' row r' e hrow hr' hlv hs' he
  have hin : RowIn ρ (ASet ρ I st.mem L) w (ρ l) row := ⟨hown, hsz, cs, T, hcb, fun i hi j hj => by
    obtain ⟨u, g1, g2, g3⟩ := hcell i hi j hj
    exact ⟨u, g1, g2, (VRel.close _ _ 0 _ (hcl i hi j hj) g3 : VRel 0 ρ I w _ _).up (Nat.le_refl _) (fun _ _ => rfl) (fun b hb => .inl hb) (Tr.refl _ _)⟩⟩
  have hcall := hc.2 ρ (ASet ρ I st.mem L) w (xs.map a.eval) (ρ l) (fun b hb => by
    rcases hb with hb | ⟨l', r', _, hr', hs', rfl⟩
    · exact hrel.fr.m.lt b hb
    · exact hrel.lt hr' hs') (hrel.fr.gl.sub fun b hb => .inl hb) hnA hin hA
  have eargs : (args.map a.eval ++ #[]) = (Value.pointer (some ⟨(ρ l).b, (ρ l).o, none⟩) :: xs.map a.eval).toArray := by
    apply Array.ext'
    simp only [Array.toList_append, Array.toList_map, ha0, List.map_cons, List.append_nil]
    rw [hpe.2]; simp
  rw [eargs]
  refine hcall.mono ?_
  rintro e w' ⟨v, r, row', rfl, hpost, hk, hv, hrin⟩
  exact h v r row' w' hpost hk hv hrin
theorem frzL_keep (L : List Nat) : ∀ (m : List Row) (s l : Nat) (r : Row), m[l]? = some r → s + l ∉ L → (frzL L s m)[l]? = some r
  | [], _, _, _, h, _ => by simp at h
  | r0 :: m, s, 0, r, h, hl => by
    simp only [List.getElem?_cons_zero, Option.some.injEq] at h
    subst h
    have : L.any (Nat.beq s) = false := by
      cases ha : L.any (Nat.beq s)
      · rfl
      · exact absurd ((any_beq L s).1 ha) hl
    simp [frzL, this]
  | r0 :: m, s, l + 1, r, h, hl => by
    simp only [frzL, List.getElem?_cons_succ]
    exact frzL_keep L m (s + 1) l r (by simpa using h) (by rw [show s + 1 + l = s + (l + 1) by omega]; exact hl)
theorem pop_ptr {G : Pg} {f : FuncId} {x x0 : Operand} {xs : List Operand} {args : Array Operand} {tys : Array TypeId} {c : Nat → PV} {l : Nat} {row : Row} {qs : List PV} {post : PV → Row → Prop} {m : Row → List Row} (L : List Nat) (hg : o.guard = none) (hd : o.dst = some d) (hN : Nat.blt d N = true) (ho : o.op = .call ⟨.value x, args, tys⟩) (hx : st.ev x = .clo f 0 c) (ha0 : args.toList = x0 :: xs) (hp : st.ev x0 = .ptr l 0 0) (hrow : rowAt st.mem l = some row) (hown : ownB row = true) (hm : ∀ row', frzK L st.mem 0 (fun m0 => setM m0 l row' some) = some (m row')) (hlL : (L.any (Nat.beq l)) = false)
    (hcl : rowCl row) (hLk : ∀ l', l' ∈ L → Γ.k0 ≤ l') (hc : PtrC G.P f row qs post) (ha : ArgsOk st.mem L (xs.map st.ev) qs)
    (h : ∀ r row', post r row' → POps G N Γ ops rest (PSt.put ⟨st.tm, m row'⟩ d r) K) : POps G N Γ ops (o :: rest) st K := .mk fun ρ I a w hrel => by
  have hw : Region.wanted o (yielded ops a.tmps) = true := by simp [Region.wanted, hg]
  simp only [wpList, hw, if_true]
  rw [rowAt_get] at hrow
  have hlL' : l ∉ L := fun hl => by rw [(any_beq L l).2 hl] at hlL; cases hlL
  refine .inl (ptr_core L hrel ho hx ha0 hp hrow (ownB_eq hown) hcl hlL' hc ha ?_)
  intro v r row' w' hpost hk hv hrin
  have hkk := h r row' hpost
  have hmm : m row' = (frzL L 0 st.mem).set l row' := by have := hm row'; rw [frzK_eq, setM_eq] at this; simpa using this.symm
  simp only [hd]
  have hfr := hrel.freeze L hLk
  have hrel' := hfr.ptrCall (frzL_keep L st.mem 0 l row hrow (by simpa using hlL')) (ownB_eq hown) hk (I' := fun b => ASet ρ I st.mem L b ∨ (w.heap.size ≤ b ∧ b < w'.heap.size)) (fun b hb => .inl hb) (fun b hb => hb) hrin
  rw [← hmm] at hrel'
  exact hkk.go ρ _ _ w' (hrel'.put (by rwa [Nat.blt_eq] at hN) hv.of0)
theorem pop_callc {G : Pg} {f : FuncId} {x : Operand} {args : Array Operand} {tys : Array TypeId} {c : Nat → PV} {qs : List PV} {post : PV → Prop} {m : List Row} (L : List Nat) (hg : o.guard = none) (hd : o.dst = some d) (hN : Nat.blt d N = true) (ho : o.op = .call ⟨.value x, args, tys⟩) (hx : st.ev x = .clo f 0 c) (hm0 : frzK L st.mem 0 some = some m) (hLk : ∀ l', l' ∈ L → Γ.k0 ≤ l')
    (hc : PureC G.P f qs post) (ha : ArgsOk st.mem L (args.toList.map st.ev) qs) (h : ∀ r, post r → POps G N Γ ops rest (PSt.put ⟨st.tm, m⟩ d r) K) : POps G N Γ ops (o :: rest) st K := .mk fun ρ I a w hrel => by
  have hm : frzL L 0 st.mem = m := by rw [frzK_eq] at hm0; simpa using hm0
  have hw : Region.wanted o (yielded ops a.tmps) = true := by simp [Region.wanted, hg]
  simp only [wpList, hw, if_true]
  refine .inl ?_
  have hxe := ev_rel hrel x
  rw [hx] at hxe
  obtain ⟨cap, e1, e2, _⟩ := hxe
  have e3 : cap = #[] := by simpa using e2
  subst e3
  simp only [Oper.wp, call_run hc.1 ho e1, Oper.upon_enter]
  have hA := args_sound hrel.fr.m _ qs (args.toList.map a.eval) ha (fun i hi => evs_rel hrel args.toList i hi) (by simp)
  have hcall := hc.2 ρ (ASet ρ I st.mem L) w (args.toList.map a.eval) (fun b hb => by
    rcases hb with hb | ⟨l, r, _, hr, hs, rfl⟩
    · exact hrel.fr.m.lt b hb
    · exact hrel.lt hr hs) (hrel.fr.gl.sub fun b hb => .inl hb) hA
  have eargs : (args.map a.eval ++ #[]) = (args.toList.map a.eval).toArray := by apply Array.ext'; simp
  rw [eargs]
  refine hcall.mono ?_
  rintro e w' ⟨v, r, rfl, hpost, hext, hv⟩
  simp only [hd]
  have hfr := (hrel.freeze L hLk).ext hext (I' := fun b => ASet ρ I st.mem L b ∨ (w.heap.size ≤ b ∧ b < w'.heap.size)) (fun b hb => .inl hb) (fun b hb => hb)
  rw [hm] at hfr
  exact (h r hpost).go ρ _ _ w' (hfr.put (by rwa [Nat.blt_eq] at hN) hv.of0)
end
open Go.RowKit
def fillS (st : PSt) (sz : Nat) (k : List PV → Prop → Option (PV × List Row × Prop)) : List (Nat × Operand) → List PV → Prop → Option (PV × List Row × Prop)
  | [], l, c => k l c
  | (i, x) :: ps, l, c => cellsOf (str (st.ev x)) fun q =>
      cond (Nat.beq q.length sz && Nat.ble (i * sz + q.length) l.length)
        (forceL l.length (fun j => cond (Nat.ble (i * sz) j && Nat.blt j (i * sz + q.length)) (nthP q (j - i * sz)) (nthP l j)) 0 fun l' => fillS st sz k ps l' (strP (st.ev x) c)) none
def repL {α : Type} (n : Nat) (z : List α) : List α :=
  match n with
  | 0 => []
  | n + 1 => z ++ repL n z
def pmake (tab : List TI) (st : PSt) : Op → Option (PV × List Row × Prop)
  | .buildSlice t len parts => match (tget tab t).k with
    | .slice e => match (tget tab e).zero with
      | some z => zcells z fun z => cond (Nat.beq z.length (tget tab e).sz && Nat.blt 0 z.length && Nat.ble (len * z.length) 16777216)
          (fillS st z.length (fun l c => snocM st.mem ⟨.own, false, len, z.length, fun a b => nthP l (a * z.length + b)⟩ 0 fun n m => some (.lsl n 0 len, m, c)) parts.toList (repL len z) True) none
      | none => none
    | _ => none
  | .makeSlice t x y => match (tget tab t).k, str (st.ev x), str (st.ev y) with
    | .slice e, .val (.int _ i), .val (.int _ j) => match (tget tab e).zero with
      | some z => zcells z fun z => cond (Nat.beq z.length (tget tab e).sz && Nat.blt 0 z.length)
          (snocM st.mem ⟨.own, false, i.toNat, z.length, fun _ => nthP z⟩ 0 fun n m => some (.lsl n 0 i.toNat, m, strP (st.ev x) (strP (st.ev y) (0 ≤ i ∧ i ≤ j ∧ j ≤ 9223372036854775807 ∧ j * (tget tab e).bytes ≤ 281474976710656)))) none
      | none => none
    | _, _, _ => none
  | _ => none
theorem repL_length {α : Type} (z : List α) : ∀ n, (repL n z).length = n * z.length
  | 0 => by simp [repL]
  | n + 1 => by simp [repL, repL_length z n, Nat.add_mul]; omega
theorem repL_get {α : Type} (z : List α) (hz : 0 < z.length) : ∀ n q, q < n * z.length → (repL n z)[q]? = z[q % z.length]?
  | 0, q, h => by simp at h
  | n + 1, q, h => by
    rw [repL]
    by_cases hq : q < z.length
    · rw [List.getElem?_append_left hq, Nat.mod_eq_of_lt hq]
    · rw [List.getElem?_append_right (by omega), repL_get z hz n (q - z.length) (by rw [Nat.add_mul] at h; omega)]
      conv => rhs; rw [Nat.mod_eq_sub_mod (show q ≥ z.length by omega)]
theorem range_cells (n : Nat) (z : Array Value) (hs : 0 < z.size) (q : Nat) (hq : q < n) : ((Array.range n).map (z[· % z.size]!)).getD q undef = z.getD (q % z.size) undef := by
  have hlt : q % z.size < z.size := Nat.mod_lt _ hs
  have h1 : ((Array.range n).map (z[· % z.size]!))[q]? = some (z[q % z.size]!) := by simp [hq]
  rw [Array.getD_eq_getD_getElem?, h1, Option.getD_some, getElem!_pos z (q % z.size) hlt, Array.getD_eq_getD_getElem?, Array.getElem?_eq_getElem hlt, Option.getD_some]
theorem nthP_get : ∀ (l : List PV) (i : Nat), nthP l i = (l[i]?).getD .junk
  | [], i => by simp [nthP]
  | p :: l, 0 => by simp [nthP]
  | p :: l, i + 1 => by simp [nthP, nthP_get l i]
section
variable {G : Pg} {N : Nat} {Γ : Fr} {st : PSt} {ρ : Nat → Loc} {I : Nat → Prop} {a : Act} {w : World}
theorem fillS_sound {sz : Nat} {kk : List PV → Prop → Option (PV × List Row × Prop)} {y : PV × List Row × Prop} (h : Rel N Γ st ρ I a w) : ∀ (ps : List (Nat × Operand)) (l : List PV) (c : Prop), fillS st sz kk ps l c = some y → ∃ l' c', kk l' c' = some y ∧ l'.length = l.length ∧ (c' → c) ∧ (c' → ∀ cs : Array Value, cs.size = l.length → (∀ i, i < l.length → (cs.getD i undef).oneCell' = true ∧ VRel st.mem.length ρ I w (nthP l i) (cs.getD i undef)) →
    ∃ cs', Instr.fill (fun i => some (i * sz, sz)) cs (ps.map fun x => (x.1, a.eval x.2)) = some cs' ∧ cs'.size = l'.length ∧ ∀ i, i < l'.length → (cs'.getD i undef).oneCell' = true ∧ VRel st.mem.length ρ I w (nthP l' i) (cs'.getD i undef))
  | [], l, c, hr => ⟨l, c, hr, rfl, fun h => h, fun _ cs h1 h2 => ⟨cs, rfl, h1, h2⟩⟩
  | (i, x) :: ps, l, c, hr => by
    rw [fillS] at hr
    obtain ⟨q, h1, h2⟩ := cellsOf_sound hr
    obtain ⟨hk, h1⟩ := cond_some h1
    simp only [Bool.and_eq_true] at hk
    have hk1 : q.length = sz := Nat.eq_of_beq_eq_true hk.1
    have hk2 : i * sz + q.length ≤ l.length := Nat.le_of_ble_eq_true hk.2
    rw [forceL_eq] at h1
    generalize hoff : i * sz = off at h1 hk2
    generalize hl2 : List.map (fun j => cond (Nat.ble off j && Nat.blt j (off + q.length)) (nthP q (j - off)) (nthP l j)) (List.range' 0 l.length) = l2 at h1
    have hlen : l2.length = l.length := by rw [← hl2]; simp
    have hnth : ∀ j, j < l.length → nthP l2 j = cond (Nat.ble off j && Nat.blt j (off + q.length)) (nthP q (j - off)) (nthP l j) := fun j hj => by
      rw [← hl2, nthP_map _ _ _ _ hj, Nat.zero_add]
    obtain ⟨l', c', hkk, hll, hcc, hrest⟩ := fillS_sound h ps l2 (strP (st.ev x) c) h1
    refine ⟨l', c', hkk, hll.trans hlen, fun hc' => (str_rel (ev_rel h x) (hcc hc')).2, fun hc' cs hs hv => ?_⟩
    obtain ⟨hx, hc⟩ := str_rel (ev_rel h x) (hcc hc')
    obtain ⟨g1, g2⟩ := h2 _ _ _ _ _ hx
    generalize hcs2 : ((a.eval x).cells.zipIdx.foldl (fun cs (z : Value × Nat) => cs.setIfInBounds (off + z.2) z.1) cs) = cs2
    obtain ⟨f1, f2⟩ := fold_set off (a.eval x).cells.toList 0 cs
    rw [← Array.toList_zipIdx, Array.foldl_toList, hcs2] at f1 f2
    have hs2 : cs2.size = l2.length := by rw [f1, hs, hlen]
    obtain ⟨cs', e1, e2, e3⟩ := hrest hc' cs2 hs2 (fun j hj => by
      rw [hlen] at hj
      have e : cs2.getD j undef = if off ≤ j ∧ j < off + (a.eval x).cells.size then (a.eval x).cells.getD (j - off) undef else cs.getD j undef := by
        simp only [Array.getD_eq_getD_getElem?, f2 j, Nat.add_zero, Array.length_toList]
        by_cases hc1 : off ≤ j ∧ j < off + (a.eval x).cells.size
        · rw [if_pos ⟨hc1.1, hc1.2, by omega⟩, if_pos hc1]; simp [List.getD]
        · rw [if_neg (by omega), if_neg hc1]
      rw [hnth j hj, e]
      by_cases hr1 : off ≤ j ∧ j < off + q.length
      · have e1 : (Nat.ble off j && Nat.blt j (off + q.length)) = true := by simp [Nat.ble_eq, Nat.blt_eq, hr1]
        rw [e1, cond_true, if_pos (by omega)]
        exact g2 (j - off) (by omega)
      · have e1 : (Nat.ble off j && Nat.blt j (off + q.length)) = false := by
          cases hbb : (Nat.ble off j && Nat.blt j (off + q.length))
          · rfl
          · simp [Nat.ble_eq, Nat.blt_eq] at hbb; omega
        rw [e1, cond_false, if_neg (by omega)]
        exact hv j hj)
    refine ⟨cs', ?_, e2, e3⟩
    simp only [List.map_cons, Instr.fill]
    rw [if_neg (by simp; omega)]
    rw [← hcs2] at e1
    simp only [hoff]
    exact e1
theorem made_slice (h : Rel N Γ st ρ I a w) (t : TypeId) (cs : Array Value) (row : Row) (n cap : Nat) (hs : row.s = .own) (hn : n = row.n) (hcap : n ≤ cap) (hsize : cap * row.sz ≤ cs.size)
    (hc : ∀ i, i < row.n → ∀ j, j < row.sz → ∃ u, cs[i * row.sz + j]? = some u ∧ u.oneCell' = true ∧ VRel st.mem.length ρ I w (row.f i j) u) :
    Made N Γ st ρ I a w (.lsl (0 + st.mem.length) 0 n) (st.mem ++ [row]) (.slice (some ⟨w.heap.size, 0, none⟩) n cap) (w.alloc (.cells cs t)) (addLoc ρ st.mem.length ⟨w.heap.size, 0, row.sz⟩) := by
  refine ⟨h.newRow cs t row hs hc, ⟨by simp, .inr ⟨cap, hcap, by simp [addLoc], cs, t, (0, 0), ?_, by simpa [addLoc] using hsize⟩⟩, Below.alloc (Below.refl _ _) (Nat.le_refl _) _, fun l hl => if_neg (by omega), ⟨_, rfl⟩, by simp [addLoc]⟩
  simp only [Nat.zero_add, addLoc, if_true]
  show (w.heap.push _)[w.heap.size]? = _
  simp
theorem tab_zero (hT : TabOk G.P G.tab) {t : Nat} {z : Value} (hz : (tget G.tab t).zero = some z) : ∃ i, G.P.info? t = some i ∧ i.zero = some z ∧ i.size = (tget G.tab t).sz ∧ i.bytes = (tget G.tab t).bytes := by
  rcases hT t with e | e
  · rw [e, tiOf] at hz ⊢
    cases hi : G.P.info? t with
    | none => rw [hi] at hz; cases hz
    | some i => rw [hi] at hz; exact ⟨i, rfl, hz, rfl, rfl⟩
  · rw [e] at hz; cases hz
theorem pmake_sound (h : Rel N Γ st ρ I a w) (o : Oper) {r : PV} {m : List Row} {pre : Prop} (hr : pmake G.tab st o.op = some (r, m, pre)) (hp : pre) :
    ∃ v w' ρ', (execOp a.eval o).run G.P w = .ok (.value v) w' ∧ Made N Γ st ρ I a w r m v w' ρ' := by
  cases ho : o.op with
  | buildSlice t len parts =>
    rw [ho] at hr
    unfold pmake at hr
    dsimp only at hr
    split at hr
    · rename_i e hk
      split at hr
      · rename_i z hz
        obtain ⟨zl, h1, h2, h3⟩ := zcells_sound hr
        obtain ⟨hc, h1⟩ := cond_some h1
        simp only [Bool.and_eq_true, Nat.blt_eq] at hc
        obtain ⟨⟨hc1, hc2⟩, hc3⟩ := hc
        have hc1 : zl.length = (tget G.tab e).sz := Nat.eq_of_beq_eq_true hc1
        have hc3 : len * zl.length ≤ 16777216 := Nat.le_of_ble_eq_true hc3
        obtain ⟨l', c', hkk, hll, hcc, hrest⟩ := fillS_sound h parts.toList (repL len zl) True h1
        rw [snocM_eq] at hkk
        simp only [Option.some.injEq, Prod.mk.injEq] at hkk
        obtain ⟨rfl, rfl, rfl⟩ := hkk
        rw [repL_length] at hll
        obtain ⟨i, hi, hiz, his, hib⟩ := tab_zero G.ok hz
        have hu := tab_slice G.ok hk
        have hzc : ∀ q, q < len * zl.length → ((Array.range (len * zl.length)).map (z.cells[· % z.cells.size]!)).getD q undef = z.cells.getD (q % zl.length) undef := fun q hq => by
          rw [range_cells _ z.cells (by omega) q hq, h2]
        obtain ⟨cs', e1, e2, e3⟩ := hrest hp ((Array.range (len * zl.length)).map (z.cells[· % z.cells.size]!)) (by simp [repL_length]) (fun q hq => by
          rw [repL_length] at hq
          rw [hzc q hq, nthP_get, repL_get zl hc2 len q hq, ← nthP_get]
          have := h3 (q % zl.length) (Nat.mod_lt _ hc2)
          exact ⟨this.1, by rw [this.2]; rfl⟩)
        refine ⟨_, _, _, ?_, made_slice h e cs' ⟨.own, false, len, zl.length, fun a b => nthP l' (a * zl.length + b)⟩ len len rfl rfl (Nat.le_refl _) (by simp [e2, hll]) (fun x hx y hy => ?_)⟩
        · have hsz : (sizeOf e).run G.P w = .ok zl.length w := by rw [hc1]; exact (tab_size G.ok (by omega)).1
          have hzv : (zeroValue e).run G.P w = .ok z w := by simp [zeroValue, typeInfo, hi, hiz]
          have hpp : (parts.map fun x => (x.1, a.eval x.2)).toList = parts.toList.map fun x => (x.1, a.eval x.2) := by simp
          have hle : ¬ (len * zl.length > 2 ^ 24) := by omega
          by_cases h0 : len * zl.length = 0
          · have e1' := e1
            rw [h0] at e1'
            have hr0 : (Array.range 0).map (z.cells[· % z.cells.size]!) = #[] := by apply Array.ext'; simp
            have hr1 : ∀ zz : Array Value, (Array.range 0).map (zz[· % zz.size]!) = #[] := fun zz => by apply Array.ext'; simp
            rw [hr0] at e1'
            simp only [execOp, ho, Instr.buildSlice, Sem.run_bind, run_underlying hu w, Result.andThen_ok, hsz, h0, if_neg (show ¬ (0 > 2 ^ 24) by omega), if_true, Sem.run_pure, hpp]
            simp only [hr1, e1', newRow, Sem.run_bind, run_newObj, Result.andThen_ok, Sem.run_pure]
            rfl
          · simp only [execOp, ho, Instr.buildSlice, Sem.run_bind, run_underlying hu w, Result.andThen_ok, hsz, if_neg hle, if_neg h0, hzv, Sem.run_pure, hpp, e1, newRow, run_newObj]
            rfl
        · simp only at hx hy
          have hlt : x * zl.length + y < l'.length := by
            rw [hll]
            have : (x + 1) * zl.length ≤ len * zl.length := Nat.mul_le_mul_right _ hx
            rw [Nat.add_mul] at this; omega
          obtain ⟨g1, g2⟩ := e3 _ hlt
          exact ⟨_, by simp [Array.getD_eq_getD_getElem?, show x * zl.length + y < cs'.size by omega], g1, g2⟩
      · cases hr
    · cases hr
  | makeSlice t x y =>
    rw [ho] at hr
    unfold pmake at hr
    dsimp only at hr
    split at hr
    · rename_i e k1 i k2 j hk hb hb2
      split at hr
      · rename_i z hz
        obtain ⟨zl, h1, h2, h3⟩ := zcells_sound hr
        obtain ⟨hc, h1⟩ := cond_some h1
        simp only [Bool.and_eq_true, Nat.blt_eq] at hc
        obtain ⟨hc1, hc2⟩ := hc
        have hc1 : zl.length = (tget G.tab e).sz := Nat.eq_of_beq_eq_true hc1
        rw [snocM_eq] at h1
        simp only [Option.some.injEq, Prod.mk.injEq] at h1
        obtain ⟨rfl, rfl, rfl⟩ := h1
        obtain ⟨hx, hp⟩ := str_rel (ev_rel h x) hp
        obtain ⟨hy, hp⟩ := str_rel (ev_rel h y) hp
        rw [hb] at hx
        rw [hb2] at hy
        have e1 : a.eval x = .int k1 i := hx
        have e2 : a.eval y = .int k2 j := hy
        obtain ⟨p1, p2, p3, p4⟩ := hp
        obtain ⟨ii, hi, hiz, his, hib⟩ := tab_zero G.ok hz
        have hu := tab_slice G.ok hk
        have wi : IntKind.i64.wrap i = i := IntWalk.i64_in i ⟨by omega, by omega⟩
        have wj : IntKind.i64.wrap j = j := IntWalk.i64_in j ⟨by omega, by omega⟩
        have hsz : (sizeOf e).run G.P w = .ok zl.length w := by rw [hc1]; exact (tab_size G.ok (by omega)).1
        have hzv : (zeroValue e).run G.P w = .ok z w := by simp [zeroValue, typeInfo, hi, hiz]
        have hzc : ∀ q, q < j.toNat * zl.length → ((Array.range (j.toNat * zl.length)).map (z.cells[· % z.cells.size]!)).getD q undef = z.cells.getD (q % zl.length) undef := fun q hq => by
          rw [range_cells _ z.cells (by omega) q hq, h2]
        refine ⟨_, _, _, ?_, made_slice h e ((Array.range (j.toNat * zl.length)).map (z.cells[· % z.cells.size]!)) ⟨.own, false, i.toNat, zl.length, fun _ => nthP zl⟩ i.toNat j.toNat rfl rfl (by omega) (by simp) (fun x hx y hy => ?_)⟩
        · have hj : ((j.toNat : Nat) : Int) = j := by omega
          have c1 : (decide (j < 0) || decide ((ii.bytes : Int) * j > 2 ^ 48) || decide (i < 0) || decide (i > j)) = false := by
            have : (ii.bytes : Int) * j ≤ 281474976710656 := by
              rw [hib, Int.mul_comm]; exact p4
            simp; omega
          simp only [execOp, ho, e1, e2]
          refine run_v' _ _ _ _ ?_
          simp only [Instr.makeSlice, Sem.run_bind, run_underlying hu w, Result.andThen_ok, asInt, asIntOf, Sem.run_pure, typeInfo, run_program, hi, wi, wj, c1, Bool.false_eq_true, if_false, run_askRoom, hsz]
          by_cases h0 : j.toNat * zl.length = 0
          · rw [if_pos h0, h0]
            have hr1 : ∀ zz : Array Value, (Array.range 0).map (zz[· % zz.size]!) = #[] := fun zz => by apply Array.ext'; simp
            simp only [Sem.run_bind, Sem.run_pure, Result.andThen_ok, newRow, run_newObj, hr1]
            rfl
          · rw [if_neg h0]
            simp only [Sem.run_bind, Sem.run_pure, Result.andThen_ok, hzv, newRow, run_newObj]
            rfl
        · simp only at hx hy
          have hlt : x * zl.length + y < j.toNat * zl.length := by
            have : (x + 1) * zl.length ≤ j.toNat * zl.length := Nat.mul_le_mul_right _ (by omega)
            rw [Nat.add_mul] at this; omega
          have e : (x * zl.length + y) % zl.length = y := by rw [Nat.mul_comm, Nat.mul_add_mod, Nat.mod_eq_of_lt hy]
          have := h3 y hy
          refine ⟨z.cells.getD y undef, ?_, this.1, by show VRel _ _ _ _ (nthP zl y) _; rw [this.2]; rfl⟩
          have hz2 := hzc _ hlt
          rw [e] at hz2
          rw [← hz2]
          simp [Array.getD_eq_getD_getElem?, hlt]
      · cases hr
    · cases hr
  | _ => rw [ho] at hr; cases hr
theorem Rel.kill (h : Rel N Γ st ρ I a w) (l : Nat) {r : Row} (hl : st.mem[l]? = some r) (rd : Row) (hrd : rd.s = .dead) : Rel N Γ ⟨st.tm, st.mem.set l rd⟩ ρ I a w := by
  have up : ∀ {p : PV} {v : Value}, VRel st.mem.length ρ I w p v → VRel (st.mem.set l rd).length ρ I w p v := fun hv => by simpa using hv
  have getm : ∀ (l' : Nat) (r' : Row), (st.mem.set l rd)[l']? = some r' → r'.s = .mp → st.mem[l']? = some r' := fun l' r' hl' hs => by
    by_cases he : l' = l
    · subst he
      rw [List.getElem?_set_self (lt_get hl)] at hl'
      simp only [Option.some.injEq] at hl'
      subst hl'; rw [hrd] at hs; cases hs
    · rw [List.getElem?_set_ne (Ne.symm he)] at hl'; exact hl'
  have get : ∀ l' r', (st.mem.set l rd)[l']? = some r' → r'.s.live → l' ≠ l ∧ st.mem[l']? = some r' := fun l' r' hl' hs => by
    by_cases he : l' = l
    · subst he
      rw [List.getElem?_set_self (lt_get hl)] at hl'
      simp only [Option.some.injEq] at hl'
      subst hl'; rw [hrd] at hs; exact hs.elim
    · rw [List.getElem?_set_ne (Ne.symm he)] at hl'; exact ⟨he, hl'⟩
  refine ⟨⟨⟨fun l' r' hl' hs => ?_, fun l1 l2 r1 r2 hne h1 h2 hs1 hs2 => ?_, fun l' r' hl' ho hb => ?_, fun l' r' hl' hi => ?_, h.fr.m.lt, fun l' r' hl' hm => ?_, fun l1 l2 r1 r2 hne h1 h2 hs1 hs2 => ?_⟩, h.fr.os, h.fr.tape, h.fr.output, h.fr.size, h.fr.block, h.fr.shape, h.fr.old, h.fr.new, fun l' r' hl' ho hlt => ?_, fun l' r' hl' ho hk => ?_, by simpa using h.fr.k0, h.fr.ρ0, fun l' r' hl' hm hk => ?_, h.fr.gl⟩, h.defers, h.size, fun t => up (h.slot t)⟩
  · obtain ⟨h1, cs, T, h2, h3⟩ := h.fr.m.row l' r' (get l' r' hl' hs).2 hs
    exact ⟨h1, cs, T, h2, fun i hi j hj => by obtain ⟨u, g1, g2, g3⟩ := h3 i hi j hj; exact ⟨u, g1, g2, up g3⟩⟩
  · exact h.fr.m.apart l1 l2 r1 r2 hne (get l1 r1 h1 hs1).2 (get l2 r2 h2 hs2).2 hs1 hs2
  · exact h.fr.m.mine l' r' (get l' r' hl' (RS.live_of_own ho)).2 ho hb
  · exact h.fr.m.imm l' r' (get l' r' hl' (by rw [hi]; trivial)).2 hi
  · obtain ⟨g1, g2⟩ := h.fr.m.side l' r' (getm l' r' hl' hm) hm
    exact ⟨g1, g2.up (Nat.le_refl _) rfl (.refl _) fun i hi j hj v hv => up hv⟩
  · exact h.fr.m.sap l1 l2 r1 r2 hne (getm l1 r1 h1 hs1) (getm l2 r2 h2 hs2) hs1 hs2
  · exact h.fr.own l' r' (get l' r' hl' (RS.live_of_own ho)).2 ho hlt
  · exact h.fr.fresh l' r' (get l' r' hl' (RS.live_of_own ho)).2 ho hk
  · exact h.fr.sfresh l' r' (getm l' r' hl' hm) hm hk
theorem Rel.rebase (h : Rel N Γ st ρ I a w) (l : Nat) {r : Row} (hl : st.mem[l]? = some r) (ho : r.s = .own) (i n : Nat) (hn : i + n ≤ r.n) (hk : Γ.k0 ≤ l) (f : Nat → Nat → PV) (hf : ∀ x, x < n → ∀ y, y < r.sz → f x y = r.f (i + x) y) (rd : Row) (hrd : rd.s = .dead) :
    Rel N Γ ⟨st.tm, st.mem.set l rd ++ [⟨.own, false, n, r.sz, f⟩]⟩ (addLoc ρ st.mem.length ⟨(ρ l).b, (ρ l).o + i * r.sz, r.sz⟩) I a w := by
  have hio : r.s.isOwn := by rw [ho]; trivial
  have hlv := RS.live_of_own hio
  have hkill := h.kill l hl rd hrd
  have hlen := lt_get hl
  have hρ : ∀ l', l' < st.mem.length → addLoc ρ st.mem.length ⟨(ρ l).b, (ρ l).o + i * r.sz, r.sz⟩ l' = ρ l' := fun l' hl' => if_neg (by omega)
  have hρn : addLoc ρ st.mem.length ⟨(ρ l).b, (ρ l).o + i * r.sz, r.sz⟩ st.mem.length = ⟨(ρ l).b, (ρ l).o + i * r.sz, r.sz⟩ := if_pos rfl
  have up : ∀ {p : PV} {v : Value}, VRel st.mem.length ρ I w p v → VRel (st.mem.set l rd ++ [(⟨.own, false, n, r.sz, f⟩ : Row)]).length (addLoc ρ st.mem.length ⟨(ρ l).b, (ρ l).o + i * r.sz, r.sz⟩) I w p v := fun hv =>
    hv.up (by simp) hρ (fun _ h => h) (Tr.refl _ _)
  have getm : ∀ (l' : Nat) (r' : Row), (st.mem.set l rd ++ [⟨.own, false, n, r.sz, f⟩])[l']? = some r' → r'.s = .mp → l' < st.mem.length ∧ st.mem[l']? = some r' := fun l' r' hl' hs => by
    by_cases hlt : l' < st.mem.length
    · rw [List.getElem?_append_left (by simpa using hlt)] at hl'
      by_cases he : l' = l
      · subst he
        rw [List.getElem?_set_self hlen] at hl'
        simp only [Option.some.injEq] at hl'
        subst hl'; rw [hrd] at hs; cases hs
      · rw [List.getElem?_set_ne (Ne.symm he)] at hl'; exact ⟨hlt, hl'⟩
    · rw [List.getElem?_append_right (by simp; omega)] at hl'
      by_cases he : l' = st.mem.length
      · subst he; simp at hl'; rw [← hl'] at hs; cases hs
      · rw [List.getElem?_eq_none (by simp; omega)] at hl'; cases hl'
  have get : ∀ l' r', (st.mem.set l rd ++ [⟨.own, false, n, r.sz, f⟩])[l']? = some r' → r'.s.live → (l' ≠ l ∧ l' < st.mem.length ∧ st.mem[l']? = some r') ∨ (l' = st.mem.length ∧ r' = ⟨.own, false, n, r.sz, f⟩) := fun l' r' hl' hs => by
    by_cases hlt : l' < st.mem.length
    · rw [List.getElem?_append_left (by simpa using hlt)] at hl'
      by_cases he : l' = l
      · subst he
        rw [List.getElem?_set_self hlen] at hl'
        simp only [Option.some.injEq] at hl'
        subst hl'; rw [hrd] at hs; exact hs.elim
      · rw [List.getElem?_set_ne (Ne.symm he)] at hl'; exact .inl ⟨he, hlt, hl'⟩
    · rw [List.getElem?_append_right (by simp; omega)] at hl'
      by_cases he : l' = st.mem.length
      · subst he; simp at hl'; exact .inr ⟨rfl, hl'.symm⟩
      · rw [List.getElem?_eq_none (by simp; omega)] at hl'; cases hl'
  refine ⟨⟨⟨fun l' r' hl' hs => ?_, fun l1 l2 r1 r2 hne h1 h2 hs1 hs2 => ?_, fun l' r' hl' ho' hb => ?_, fun l' r' hl' hi => ?_, h.fr.m.lt, fun l' r' hl' hm => ?_, fun l1 l2 r1 r2 hne h1 h2 hs1 hs2 => ?_⟩, h.fr.os, h.fr.tape, h.fr.output, h.fr.size, h.fr.block, h.fr.shape, h.fr.old, h.fr.new, fun l' r' hl' ho' hlt => ?_, fun l' r' hl' ho' hk' => ?_, by simp; exact Nat.le_succ_of_le h.fr.k0, fun l' hl' => ?_, fun l' r' hl' hm hk' => ?_, h.fr.gl⟩, h.defers, h.size, fun t => up (h.slot t)⟩
  · rcases get l' r' hl' hs with ⟨_, hlt, hA⟩ | ⟨e1, e2⟩
    · rw [hρ l' hlt]
      obtain ⟨h1, cs, T, h2, h3⟩ := h.fr.m.row l' r' hA hs
      exact ⟨h1, cs, T, h2, fun i hi j hj => by obtain ⟨u, g1, g2, g3⟩ := h3 i hi j hj; exact ⟨u, g1, g2, up g3⟩⟩
    · subst e1 e2
      rw [hρn]
      obtain ⟨h1, cs, T, h2, h3⟩ := h.fr.m.row l r hl hlv
      refine ⟨rfl, cs, T, h2, fun x hx y hy => ?_⟩
      obtain ⟨u, g1, g2, g3⟩ := h3 (i + x) (by simp at hx; omega) y hy
      refine ⟨u, ?_, g2, by show VRel _ _ _ _ (f x y) _; rw [hf x hx y hy]; exact up g3⟩
      rw [← g1]; congr 1; simp only; rw [Nat.add_mul]; omega
  · rcases get l1 r1 h1 hs1 with ⟨n1, b1, hA⟩ | ⟨e1, e2⟩ <;> rcases get l2 r2 h2 hs2 with ⟨n2, b2, hB⟩ | ⟨e3, e4⟩
    · rw [hρ l1 b1, hρ l2 b2]; exact h.fr.m.apart l1 l2 r1 r2 hne hA hB hs1 hs2
    · rw [hρ l1 b1, e3, hρn]; exact h.fr.m.apart l1 l r1 r n1 hA hl hs1 hlv
    · rw [hρ l2 b2, e1, hρn]; exact h.fr.m.apart l l2 r r2 (Ne.symm n2) hl hB hlv hs2
    · exact absurd (e1.trans e3.symm) hne
  · rcases get l' r' hl' (RS.live_of_own ho') with ⟨_, hlt, hA⟩ | ⟨e1, e2⟩
    · rw [hρ l' hlt] at hb; exact h.fr.m.mine l' r' hA ho' hb
    · rw [e1, hρn] at hb; exact h.fr.m.mine l r hl hio hb
  · rcases get l' r' hl' (by rw [hi]; trivial) with ⟨_, hlt, hA⟩ | ⟨e1, e2⟩
    · rw [hρ l' hlt]; exact h.fr.m.imm l' r' hA hi
    · rw [e2] at hi; cases hi
  · obtain ⟨hlt, hA⟩ := getm l' r' hl' hm
    obtain ⟨g1, g2⟩ := h.fr.m.side l' r' hA hm
    rw [hρ l' hlt]
    exact ⟨g1, g2.up (Nat.le_refl _) rfl (.refl _) fun i hi j hj v hv => up hv⟩
  · obtain ⟨b1, hA⟩ := getm l1 r1 h1 hs1
    obtain ⟨b2, hB⟩ := getm l2 r2 h2 hs2
    rw [hρ l1 b1, hρ l2 b2]; exact h.fr.m.sap l1 l2 r1 r2 hne hA hB hs1 hs2
  · rcases get l' r' hl' (RS.live_of_own ho') with ⟨_, hb, hA⟩ | ⟨e1, e2⟩
    · rw [hρ l' hb] at hlt ⊢; exact h.fr.own l' r' hA ho' hlt
    · rw [e1, hρn] at hlt ⊢; exact h.fr.own l r hl hio hlt
  · rcases get l' r' hl' (RS.live_of_own ho') with ⟨_, hb, hA⟩ | ⟨e1, e2⟩
    · rw [hρ l' hb]; exact h.fr.fresh l' r' hA ho' hk'
    · rw [e1, hρn]; exact h.fr.fresh l r hl hio hk
  · rw [hρ l' (Nat.lt_of_lt_of_le hl' h.fr.k0)]; exact h.fr.ρ0 l' hl'
  · obtain ⟨b1, hA⟩ := getm l' r' hl' hm
    rw [hρ l' b1]; exact h.fr.sfresh l' r' hA hm hk'
def appF (n : Nat) (f g : Nat → Nat → PV) (x : Nat) : Nat → PV := cond (Nat.blt x n) (f x) (g (x - n))
theorem appF_lt {n x : Nat} (f g : Nat → Nat → PV) (h : x < n) : appF n f g x = f x := by
  have : Nat.blt x n = true := by rw [Nat.blt_eq]; exact h
  simp [appF, this]
theorem appF_ge {n x : Nat} (f g : Nat → Nat → PV) (h : n ≤ x) : appF n f g x = g (x - n) := by
  have : Nat.blt x n = false := by
    cases hb : Nat.blt x n
    · rfl
    · rw [Nat.blt_eq] at hb; omega
  simp [appF, this]
def asrc (st : PSt) (sz : Nat) (p : PV) (k : Nat → (Nat → Nat → PV) → Prop → Option (PV × List Row × Prop)) : Option (PV × List Row × Prop) :=
  match p with
  | .vsl m s g => cond (Nat.beq s sz) (k m g True) none
  | .lsl l i m => match rowAt st.mem l with
    | some r => match r.s with
      | .dead => none
      | .virt => none
      | .mp => none
      | _ => cond (Nat.beq r.sz sz) (k m (fun x => r.f (i + x)) (i + m ≤ r.n)) none
    | none => none
  | _ => none
theorem asrc_sound (h : Rel N Γ st ρ I a w) {sz : Nat} {p : PV} {k : Nat → (Nat → Nat → PV) → Prop → Option (PV × List Row × Prop)} {y : PV × List Row × Prop} (hr : asrc st sz p k = some y) :
    ∃ m g c, k m g c = some y ∧ (c → ∀ v, VRel st.mem.length ρ I w p v → ∃ ad cap, v = .slice ad m cap ∧ (m = 0 ∨ ∃ b o, ad = some ⟨b, o, none⟩ ∧ ∀ i, i < m → ∀ j, j < sz → ∃ u, w.cell? ⟨b, o + i * sz + j, none⟩ = some u ∧ u.oneCell' = true ∧ VRel st.mem.length ρ I w (g i j) u)) := by
  unfold asrc at hr
  split at hr
  · rename_i m s g
    obtain ⟨h1, h2⟩ := cond_some hr
    obtain rfl : s = sz := Nat.eq_of_beq_eq_true h1
    refine ⟨m, g, True, h2, fun _ v hv => ?_⟩
    obtain ⟨ad, cap, e1, _, e3⟩ := hv
    refine ⟨ad, cap, e1, e3.imp id ?_⟩
    rintro ⟨b, o, e4, _, e6⟩
    exact ⟨b, o, e4, fun i hi j hj => by obtain ⟨u, g1, g2, g3⟩ := e6 i hi j hj; exact ⟨u, g1, g2, g3.of0⟩⟩
  · rename_i l i m
    rw [rowAt_get] at hr
    split at hr
    · rename_i r hrow
      have main : r.s.live → cond (Nat.beq r.sz sz) (k m (fun x => r.f (i + x)) (i + m ≤ r.n)) none = some y → ∃ q g c, k q g c = some y ∧ (c → ∀ v, VRel st.mem.length ρ I w (.lsl l i m) v → ∃ ad cap, v = .slice ad q cap ∧ (q = 0 ∨ ∃ b o, ad = some ⟨b, o, none⟩ ∧ ∀ i, i < q → ∀ j, j < sz → ∃ u, w.cell? ⟨b, o + i * sz + j, none⟩ = some u ∧ u.oneCell' = true ∧ VRel st.mem.length ρ I w (g i j) u)) := by
        intro hlive hr
        obtain ⟨h1, h2⟩ := cond_some hr
        obtain rfl : r.sz = sz := Nat.eq_of_beq_eq_true h1
        refine ⟨m, _, _, h2, fun hc v hv => ?_⟩
        obtain ⟨hs, cs, T, hcb, hcell⟩ := h.fr.m.row l r hrow hlive
        rcases hv.2 with ⟨rfl, ad, e1⟩ | ⟨cap, _, e1, _⟩
        · exact ⟨ad, 0, e1, .inl rfl⟩
        · refine ⟨_, cap, e1, .inr ⟨(ρ l).b, (ρ l).o + i * (ρ l).sz, rfl, fun x hx y hy => ?_⟩⟩
          obtain ⟨u, g1, g2, g3⟩ := hcell (i + x) (by omega) y hy
          refine ⟨u, ?_, g2, g3⟩
          rw [hs]
          simp only [World.cell?, hcb]
          rw [← g1, Nat.add_mul]; simp; congr 1; omega
      split at hr
      · cases hr
      · cases hr
      · cases hr
      · rename_i hn1 hn2 hn3
        exact main (by cases hs : r.s <;> first | trivial | exact absurd hs hn1 | exact absurd hs hn2 | exact absurd hs hn3) hr
    · cases hr
  · cases hr
theorem news_list {sz m b o : Nat} {g : Nat → Nat → PV} (hsz : 0 < sz) (hc : ∀ i, i < m → ∀ j, j < sz → ∃ u, w.cell? ⟨b, o + i * sz + j, none⟩ = some u ∧ u.oneCell' = true ∧ VRel st.mem.length ρ I w (g i j) u) :
    ∃ news : List Value, news.length = m * sz ∧ (∀ j u, news[j]? = some u → w.cell? ((⟨b, o, none⟩ : Addr).add j) = some u) ∧ (∀ u ∈ news, u.oneCell' = true) ∧ ∀ i, i < m → ∀ j, j < sz → ∃ u, news[i * sz + j]? = some u ∧ u.oneCell' = true ∧ VRel st.mem.length ρ I w (g i j) u := by
  have hq : ∀ q, q < m * sz → ∃ u, w.cell? ⟨b, o + q, none⟩ = some u ∧ u.oneCell' = true ∧ VRel st.mem.length ρ I w (g (q / sz) (q % sz)) u := fun q hq => by
    obtain ⟨u, e⟩ := hc (q / sz) (Nat.div_lt_of_lt_mul (by rw [Nat.mul_comm]; exact hq)) (q % sz) (Nat.mod_lt _ hsz)
    refine ⟨u, ?_, e.2⟩
    rw [← e.1]; congr 2
    have := Nat.div_add_mod q sz
    rw [Nat.mul_comm] at this; omega
  let G0 : Nat → Value := fun q => (w.cell? ⟨b, o + q, none⟩).getD undef
  have hG : ∀ q, q < m * sz → w.cell? ⟨b, o + q, none⟩ = some (G0 q) ∧ (G0 q).oneCell' = true ∧ VRel st.mem.length ρ I w (g (q / sz) (q % sz)) (G0 q) := fun q hq' => by
    obtain ⟨u, e1, e2⟩ := hq q hq'
    have : G0 q = u := by simp [G0, e1]
    rw [this]; exact ⟨e1, e2⟩
  refine ⟨(List.range (m * sz)).map G0, by simp, fun j u hj => ?_, fun u hu => ?_, fun i hi j hj => ?_⟩
  · have hlt : j < m * sz := by
      by_cases hlt : j < m * sz
      · exact hlt
      · rw [List.getElem?_eq_none (by simp; omega)] at hj; cases hj
    simp [hlt] at hj
    subst hj
    rw [Addr.add_mid]; exact (hG j hlt).1
  · obtain ⟨q, hq', rfl⟩ := List.mem_map.1 hu
    exact (hG q (by simpa using hq')).2.1
  · have hlt : i * sz + j < m * sz := by
      have : (i + 1) * sz ≤ m * sz := Nat.mul_le_mul_right _ hi
      rw [Nat.add_mul] at this; omega
    refine ⟨G0 (i * sz + j), by simp [hlt], (hG _ hlt).2.1, ?_⟩
    have := (hG _ hlt).2.2
    have e1 : (i * sz + j) / sz = i := by rw [Nat.mul_comm, Nat.mul_add_div hsz, Nat.div_eq_of_lt hj]; rfl
    have e2 : (i * sz + j) % sz = j := by rw [Nat.mul_comm, Nat.mul_add_mod, Nat.mod_eq_of_lt hj]
    rw [e1, e2] at this
    exact this
variable {K : Exit → PSt → Prop} {ops : Array Oper} {o : Oper} {rest : List Oper} {d : Nat} {r : PV} {pre : Prop} {m : List Row}
theorem pop_make (hg : o.guard = none) (hd : o.dst = some d) (hN : Nat.blt d N = true) (hr : pmake G.tab st o.op = some (r, m, pre)) (hp : pre) (h : POps G N Γ ops rest (PSt.put ⟨st.tm, m⟩ d r) K) : POps G N Γ ops (o :: rest) st K := .mk fun ρ I a w hrel => by
  obtain ⟨v, w', ρ', hv, hm⟩ := pmake_sound hrel o hr hp
  have hw : Region.wanted o (yielded ops a.tmps) = true := by simp [Region.wanted, hg]
  simp only [wpList, hw, if_true]
  refine .inl ?_
  simp only [Oper.wp, hv, Oper.upon_value, hd]
  exact h.go ρ' I _ w' (hm.rel.put (by rwa [Nat.blt_eq] at hN) hm.val)
end
end Go.Proofs.YtcefhgomkehokaaGreat
namespace Go.Proofs.YtcefhgomkehokaaGreat
open Go.RowKit
def papp (tab : List TI) (k0 : Nat) (st : PSt) : Op → Option (PV × List Row × Prop)
  | .call c => match c.callee with
    | .builtin b => match b, c.args.toList, c.argTypes.toList with
      | .append, [s, x], [t, t'] => match (tget tab t).k, (tget tab t').k with
        | .slice e, .slice _ => cond (Nat.blt 0 (tget tab e).sz) (match (tget tab e).zero with
          | some z => cond (Nat.beq z.cells.size (tget tab e).sz) (match str (st.ev s) with
            | .val (.slice none 0 0) => asrc st (tget tab e).sz (str (st.ev x)) fun m g c => snocM st.mem ⟨.own, false, m, (tget tab e).sz, g⟩ 0 fun k mem => some (.lsl k 0 m, mem, strP (st.ev s) (strP (st.ev x) (c ∧ 0 < m ∧ m * (tget tab e).bytes ≤ 140737488355328 ∧ m ≤ 9223372036854775807)))
            | .csl n sz f => cond (Nat.beq sz (tget tab e).sz) (asrc st (tget tab e).sz (str (st.ev x)) fun m g c => snocM st.mem ⟨.own, false, n + m, (tget tab e).sz, appF n f g⟩ 0 fun k mem => some (.lsl k 0 (n + m), mem, strP (st.ev s) (strP (st.ev x) (c ∧ 0 < m ∧ (n + m) * (tget tab e).bytes ≤ 140737488355328 ∧ n + m ≤ 9223372036854775807)))) none
            | .lsl l i n => match rowAt st.mem l with
              | some r => match r.s with
                | .own => cond (Nat.beq r.sz (tget tab e).sz) (asrc st (tget tab e).sz (str (st.ev x)) fun m g c => setM st.mem l ⟨.dead, r.one, r.n, r.sz, r.f⟩ fun mem0 => snocM mem0 ⟨.own, false, n + m, (tget tab e).sz, appF n (fun x => r.f (i + x)) g⟩ 0 fun k mem => some (.lsl k 0 (n + m), mem, strP (st.ev s) (strP (st.ev x) (c ∧ k0 ≤ l ∧ i + n ≤ r.n ∧ (n + m) * (tget tab e).bytes ≤ 140737488355328 ∧ n + m ≤ 9223372036854775807)))) none
                | _ => none
              | none => none
            | _ => none) none
          | none => none) none
        | _, _ => none
      | _, _, _ => none
    | _ => none
  | _ => none
section
variable {P : Program} (w : World)
theorem run_append_zero (t tx ty e e' : TypeId) (i : TypeInfo) (ht : P.underlying t = some (.slice e)) (hx : P.underlying tx = some (.slice e')) (hi : P.info? e = some i) (base : Option Addr) (n cap : Nat) (hn : n ≤ cap) (xa : Option Addr) (xc : Nat) :
    (Builtin.append_ #[t, tx] ty #[.slice base n cap, .slice xa 0 xc]).run P w = .ok (.slice base n cap) w := by
  cases xa <;> cases base <;> simp [Builtin.append_, run_underlying ht, run_underlying hx, sizeOf, typeInfo, hi, Builtin.lenOf, hn, Builtin.firstCells, loadCells, loadCellsFrom, storeCells]
end
section
variable {G : Pg} {N : Nat} {Γ : Fr} {st : PSt} {ρ : Nat → Loc} {I : Nat → Prop} {a : Act} {w : World}
theorem ext_drew (w : World) : Ext w w.drew := ⟨rfl, rfl, rfl, Nat.le_refl _, fun _ _ => rfl⟩
theorem Rel.drew (h : Rel N Γ st ρ I a w) : Rel N Γ st ρ I a w.drew := h.ext (w' := w.drew) (ext_drew w) (I' := I) (fun _ h => h) (fun _ h => .inl h)
structure Appended (N : Nat) (Γ : Fr) (st : PSt) (I : Nat → Prop) (a : Act) (r : PV) (m : List Row) (v : Value) (w' : World) (ρ' : Nat → Loc) : Prop where
  rel : Rel N Γ ⟨st.tm, m⟩ ρ' I a w'
  val : VRel m.length ρ' I w' r v
structure AppC (st : PSt) (ρ : Nat → Loc) (w : World) (ch : List Nat) (w' : World) (ρ' : Nat → Loc) : Prop where
  size : w.heap.size ≤ w'.heap.size
  same : ∀ b, b < w.heap.size → (∀ (l : Nat) (r : Row), l ∈ ch → st.mem[l]? = some r → r.s.isOwn → b ≠ (ρ l).b) → w'.heap[b]? = w.heap[b]?
  loc : ∀ l, l < st.mem.length → ρ' l = ρ l
  new : w.heap.size ≤ (ρ' st.mem.length).b ∨ ∃ l0 r0, l0 ∈ ch ∧ st.mem[l0]? = some r0 ∧ r0.s.isOwn ∧ (ρ' st.mem.length).b = (ρ l0).b
theorem grown_app (h : Rel N Γ st ρ I a w) (e : TypeId) (sz n m cap : Nat) (hsz : 0 < sz) (olds news : List Value) (R : Array Value) (f g F : Nat → Nat → PV) (hcap : n + m ≤ cap) (hrest : R.size = (cap - (n + m)) * sz)
    (hF : ∀ x, F x = appF n f g x)
    (ho : olds.length = n * sz) (hof : ∀ i, i < n → ∀ j, j < sz → ∃ u, olds[i * sz + j]? = some u ∧ u.oneCell' = true ∧ VRel st.mem.length ρ I w (f i j) u)
    (hn : news.length = m * sz) (hnf : ∀ i, i < m → ∀ j, j < sz → ∃ u, news[i * sz + j]? = some u ∧ u.oneCell' = true ∧ VRel st.mem.length ρ I w (g i j) u) :
    Made N Γ st ρ I a w.drew (.lsl (0 + st.mem.length) 0 (n + m)) (st.mem ++ [⟨.own, false, n + m, sz, F⟩]) (.slice (some ⟨w.heap.size, 0, none⟩) (n + m) cap) (w.drew.alloc (.cells ((olds ++ news).toArray ++ R) e)) (addLoc ρ st.mem.length ⟨w.heap.size, 0, sz⟩) := by
  have htr : Tr I w w.drew := (ext_drew w).tr h.fr.m.lt
  have hrl : R.toList.length = (cap - (n + m)) * sz := by simpa using hrest
  have harr : (olds ++ news).toArray ++ R = (olds ++ (news ++ R.toList)).toArray := by apply Array.ext'; simp
  have htot : (olds ++ (news ++ R.toList)).length = cap * sz := by
    simp only [List.length_append, ho, hn, hrl, ← Nat.add_mul]
    congr 1; omega
  refine made_slice h.drew e _ ⟨.own, false, n + m, sz, F⟩ (n + m) cap rfl rfl hcap ?_ (fun i hi j hj => ?_)
  · rw [harr]; simp only [List.size_toArray]; rw [htot]; exact Nat.le_refl _
  · simp only at hi hj
    rw [harr]
    by_cases hc : i < n
    · obtain ⟨u, g1, g2, g3⟩ := hof i hc j hj
      refine ⟨u, ?_, g2, ?_⟩
      · have hlt : i * sz + j < olds.length := by
          by_cases hlt : i * sz + j < olds.length
          · exact hlt
          · rw [List.getElem?_eq_none (by omega)] at g1; cases g1
        simp only [List.getElem?_toArray]
        rw [List.getElem?_append_left hlt]; exact g1
      · show VRel _ _ _ _ (F i j) _
        rw [hF, appF_lt f g hc]; exact g3.up (Nat.le_refl _) (fun _ _ => rfl) (fun _ h => h) htr
    · obtain ⟨u, g1, g2, g3⟩ := hnf (i - n) (by omega) j hj
      refine ⟨u, ?_, g2, ?_⟩
      · have hlt : (i - n) * sz + j < news.length := by
          by_cases hlt : (i - n) * sz + j < news.length
          · exact hlt
          · rw [List.getElem?_eq_none (by omega)] at g1; cases g1
        have e1 : i * sz = n * sz + (i - n) * sz := by rw [← Nat.add_mul]; congr 1; omega
        simp only [List.getElem?_toArray]
        rw [List.getElem?_append_right (by omega), List.getElem?_append_left (by omega)]
        rw [← g1]; congr 1; omega
      · show VRel _ _ _ _ (F i j) _
        rw [hF, appF_ge f g (by omega)]; exact g3.up (Nat.le_refl _) (fun _ _ => rfl) (fun _ h => h) htr
theorem src_of {tx e' : TypeId} (hk : G.P.underlying tx = some (.slice e')) {sz m : Nat} {g : Nat → Nat → PV} {v : Value} (hsz : 0 < sz)
    (hv : ∃ ad cap, v = .slice ad m cap ∧ (m = 0 ∨ ∃ b o, ad = some ⟨b, o, none⟩ ∧ ∀ i, i < m → ∀ j, j < sz → ∃ u, w.cell? ⟨b, o + i * sz + j, none⟩ = some u ∧ u.oneCell' = true ∧ VRel st.mem.length ρ I w (g i j) u)) :
    ∃ news, Src G.P sz tx v m news w ∧ ∀ i, i < m → ∀ j, j < sz → ∃ u, news[i * sz + j]? = some u ∧ u.oneCell' = true ∧ VRel st.mem.length ρ I w (g i j) u := by
  obtain ⟨ad, cap, rfl, h⟩ := hv
  rcases h with rfl | ⟨b, o, rfl, hc⟩
  · refine ⟨[], ?_, fun i hi => by omega⟩
    cases ad with
    | none => exact Src.ofNil w hk cap
    | some a => exact Src.ofSlice w hk a 0 cap [] (by simp) (fun j u hj => by simp at hj) (fun u hu => by cases hu)
  · obtain ⟨news, h1, h2, h3, h4⟩ := news_list hsz hc
    exact ⟨news, Src.ofSlice w hk _ m cap news h1 h2 h3, h4⟩
theorem papp_lsl (h : Rel N Γ st ρ I a w) {t tx e e' ty : TypeId} {i : TypeInfo} {z : Value} (ht : G.P.underlying t = some (.slice e)) (hx : G.P.underlying tx = some (.slice e')) (hi : G.P.info? e = some i) (hz : i.zero = some z) (hzs : z.cells.size = i.size) (hsz : 0 < i.size)
    {l x n m : Nat} {r : Row} (hl : st.mem[l]? = some r) (ho : r.s = .own) (hrs : r.sz = i.size) {v u : Value} (hv : VRel st.mem.length ρ I w (.lsl l x n) v) {g : Nat → Nat → PV}
    (hu : ∃ ad cap, u = .slice ad m cap ∧ (m = 0 ∨ ∃ b o, ad = some ⟨b, o, none⟩ ∧ ∀ p, p < m → ∀ j, j < i.size → ∃ y, w.cell? ⟨b, o + p * i.size + j, none⟩ = some y ∧ y.oneCell' = true ∧ VRel st.mem.length ρ I w (g p j) y))
    (hk : Γ.k0 ≤ l) (hn : x + n ≤ r.n) (hb : (n + m) * i.bytes ≤ 140737488355328) (h63 : n + m ≤ 9223372036854775807) (rd : Row) (hrd : rd.s = .dead) :
    ∃ v' w' ρ', (Builtin.append_ #[t, tx] ty #[v, u]).run G.P w = .ok v' w' ∧ Appended N Γ st I a (.lsl (0 + st.mem.length) 0 (n + m)) (st.mem.set l rd ++ [⟨.own, false, n + m, i.size, appF n (fun q => r.f (x + q)) g⟩]) v' w' ρ' ∧ AppC st ρ w [l] w' ρ' := by
  have hlen := lt_get hl
  have hio : r.s.isOwn := by rw [ho]; trivial
  have hlv := RS.live_of_own hio
  obtain ⟨hs0, cs, T, hcb, hcell⟩ := h.fr.m.row l r hl hlv
  obtain ⟨news, hsrc, hnf⟩ := src_of hx hsz hu
  have hlsl : (st.mem.set l rd).length = st.mem.length := by simp
  have grow : ∀ (base : Option Addr) (cap : Nat) (olds : List Value), v = .slice base n cap → cap < n + m → olds.length = n * i.size → (Builtin.firstCells i.size n (.slice base n cap)).run G.P w.drew = .ok olds.toArray w.drew →
      (∀ p, p < n → ∀ j, j < i.size → ∃ y, olds[p * i.size + j]? = some y ∧ y.oneCell' = true ∧ VRel st.mem.length ρ I w (r.f (x + p) j) y) →
      ∃ v' w' ρ', (Builtin.append_ #[t, tx] ty #[v, u]).run G.P w = .ok v' w' ∧ Appended N Γ st I a (.lsl (0 + st.mem.length) 0 (n + m)) (st.mem.set l rd ++ [⟨.own, false, n + m, i.size, appF n (fun q => r.f (x + q)) g⟩]) v' w' ρ' ∧ AppC st ρ w [l] w' ρ' := by
    rintro base cap olds rfl hg hol hold hof
    have hrun := run_append_grow_src (P := G.P) w t tx ty e i z ht hi hz base n cap olds hold u m news hsrc hg (by omega) (growslice_fits hg hb)
    have hkill := h.kill l hl rd hrd
    have := grown_app hkill e i.size n m (grownCap w (n + m) cap e) hsz olds news (Builtin.zeroCells z.cells (grownCap w (n + m) cap e - (n + m))) (fun q => r.f (x + q)) g _ (grownCap_ge w _ _ _) (by rw [size_zeroCells, hzs]) (fun _ => rfl) hol
      (fun p hp j hj => by simpa using hof p hp j hj) hsrc.newsLen (fun p hp j hj => by simpa using hnf p hp j hj)
    simp only [List.length_set] at this
    have hex := (ext_drew w).trans this.ext
    have hsame := this.same
    have hnew := this.new
    simp only [List.length_set] at hsame hnew
    exact ⟨_, _, _, hrun, ⟨this.rel, this.val⟩, hex.size, fun b hb _ => hex.block b hb, hsame, .inl (by rw [hnew]; exact Nat.le_refl _)⟩
  rcases hv.2 with ⟨rfl, ad, rfl⟩ | ⟨cap, hcap, rfl, cs2, T2, fz2, hcb2, hsz2⟩
  · -- no capacity
    by_cases hm : m = 0
    · subst hm
      obtain ⟨xa, xc, rfl, _⟩ := hu
      have hrun := run_append_zero (P := G.P) w t tx ty e e' i ht hx hi ad 0 0 (Nat.le_refl _) xa xc
      have hreb := h.rebase l hl ho x 0 (by omega) hk (appF 0 (fun q => r.f (x + q)) g) (fun _ h => by omega) rd hrd
      rw [hrs] at hreb
      exact ⟨_, _, _, hrun, ⟨hreb, ⟨by simp, .inl ⟨rfl, ad, rfl⟩⟩⟩, Nat.le_refl _, fun _ _ _ => rfl, fun q hq => if_neg (by omega), .inr ⟨l, r, by simp, hl, hio, by simp [addLoc]⟩⟩
    · refine grow ad 0 [] rfl (by omega) (by simp) ?_ (fun p hp => by omega)
      cases ad with
      | none => exact run_firstCells_none w.drew i.size 0 0 0
      | some ad => exact run_firstCells_some w.drew i.size 0 ad 0 0 [] (by simp) (fun j u hj => by simp at hj)
  · rw [hcb] at hcb2
    simp only [Option.some.injEq, Obj.cells.injEq] at hcb2
    obtain ⟨rfl, rfl, rfl⟩ := hcb2
    rw [hs0, hrs] at hsz2
    rw [hrs] at hcell
    have hρn : ∀ q : Loc, addLoc ρ st.mem.length q (0 + st.mem.length) = q := fun q => by simp [addLoc]
    by_cases hg : cap < n + m
    · -- a new block
      have hold0 : ∀ p, p < n → ∀ j, j < i.size → ∃ y, w.cell? ⟨(ρ l).b, ((ρ l).o + x * i.size) + p * i.size + j, none⟩ = some y ∧ y.oneCell' = true ∧ VRel st.mem.length ρ I w (r.f (x + p) j) y := fun p hp j hj => by
        obtain ⟨y, g1, g2, g3⟩ := hcell (x + p) (by omega) j hj
        refine ⟨y, ?_, g2, g3⟩
        simp only [World.cell?, hcb]
        rw [← g1, Nat.add_mul]; simp; congr 1; omega
      obtain ⟨olds, o1, o2, o3, o4⟩ := news_list (g := fun p j => r.f (x + p) j) hsz hold0
      refine grow _ cap olds rfl hg o1 ?_ o4
      rw [hs0, hrs]
      exact run_firstCells_some w.drew i.size n _ n cap olds o1 (by simpa using o2)
    · by_cases hm : m = 0
      · subst hm
        obtain ⟨xa, xc, rfl, _⟩ := hu
        have hrun := run_append_zero (P := G.P) w t tx ty e e' i ht hx hi (some ⟨(ρ l).b, (ρ l).o + x * (ρ l).sz, none⟩) n cap hcap xa xc
        have hreb := h.rebase l hl ho x n hn hk (appF n (fun q => r.f (x + q)) g) (fun q hq y hy => by rw [appF_lt _ _ hq]) rd hrd
        rw [hrs] at hreb
        refine ⟨_, _, _, hrun, ⟨hreb, ⟨by simp, .inr ⟨cap, hcap, ?_, cs, T, (0, 0), ?_, ?_⟩⟩⟩, Nat.le_refl _, fun _ _ _ => rfl, fun q hq => if_neg (by omega), .inr ⟨l, r, by simp, hl, hio, by simp [addLoc]⟩⟩
        · rw [hρn, hs0, hrs]; simp
        · rw [hρn]; exact hcb
        · rw [hρn]; simp only; rw [Nat.add_mul] at hsz2; simp only [Nat.zero_add]; omega
      · -- there is room
        have hnl := hsrc.newsLen
        have hspan : (ρ l).o + x * i.size + n * i.size + news.length ≤ cs.size := by
          have : (n + m) * i.size ≤ cap * i.size := Nat.mul_le_mul_right _ (by omega)
          rw [Nat.add_mul] at this
          rw [Nat.add_mul] at hsz2
          omega
        have hrun := run_append_room_src (P := G.P) w t tx ty e i ht hi (ρ l).b ((ρ l).o + x * i.size) n cap u m news hsrc (by omega)
          (fun j hj => by simp only [World.cell?, hcb]; simp [show (ρ l).o + x * i.size + n * i.size + j < cs.size by omega]) (fun j hj => by simp [World.frozen?, hcb])
        obtain ⟨cs', k1, k2, k3⟩ := heap_setCells (ρ l).b news ((ρ l).o + x * i.size + n * i.size) w cs T (0, 0) hcb
        obtain ⟨z1, z2, z3, z4⟩ := rest_setCells (ρ l).b news ((ρ l).o + x * i.size + n * i.size) w
        have hset := h.setRow hl hio ⟨.own, false, x + n + m, i.size, appF (x + n) r.f g⟩ rfl hrs.symm hcb k1 k2 (fun b hne => other_setCells _ _ _ _ b hne) z1 z2 z3 z4 (fun p hp q hq => by
          simp only at hp hq ⊢
          rw [k3]
          by_cases hc : p < x + n
          · rw [appF_lt _ _ hc, if_neg]
            · exact hcell p (by omega) q hq
            · have : (p + 1) * i.size ≤ (x + n) * i.size := Nat.mul_le_mul_right _ hc
              rw [Nat.add_mul, Nat.add_mul] at this; omega
          · rw [appF_ge _ _ (by omega)]
            obtain ⟨y, y1, y2, y3⟩ := hnf (p - (x + n)) (by omega) q hq
            have e1 : p * i.size = x * i.size + n * i.size + (p - (x + n)) * i.size := by rw [← Nat.add_mul, ← Nat.add_mul]; congr 1; omega
            have hlt : (p - (x + n)) * i.size + q < news.length := by
              by_cases hlt : (p - (x + n)) * i.size + q < news.length
              · exact hlt
              · rw [List.getElem?_eq_none (by omega)] at y1; cases y1
            rw [if_pos (by omega)]
            refine ⟨y, ?_, y2, y3⟩
            rw [show (ρ l).o + p * i.size + q - ((ρ l).o + x * i.size + n * i.size) = (p - (x + n)) * i.size + q by omega]
            simp [List.getD, y1])
        have hl2 : (st.mem.set l ⟨.own, false, x + n + m, i.size, appF (x + n) r.f g⟩)[l]? = some ⟨.own, false, x + n + m, i.size, appF (x + n) r.f g⟩ := List.getElem?_set_self hlen
        have hreb := hset.rebase l hl2 rfl x (n + m) (by simp; omega) hk (appF n (fun q => r.f (x + q)) g) (fun q hq y hy => by
          simp only
          by_cases hc : q < n
          · rw [appF_lt _ _ hc, appF_lt _ _ (by omega)]
          · rw [appF_ge _ _ (by omega), appF_ge _ _ (by omega), show x + q - (x + n) = q - n by omega]) rd hrd
        simp only [List.set_set, List.length_set] at hreb
        rw [hs0, hrs]
        refine ⟨_, _, _, hrun, ⟨hreb, ⟨by simp, .inr ⟨cap, by omega, ?_, cs', T, (0, 0), ?_, ?_⟩⟩⟩, Nat.le_of_eq z4.symm, fun b hb hne => other_setCells _ _ _ _ b (hne l r (by simp) hl hio), fun q hq => if_neg (by omega), .inr ⟨l, r, by simp, hl, hio, by simp [addLoc]⟩⟩
        · rw [hρn]; simp
        · rw [hρn]; exact k1
        · rw [hρn]; simp only; rw [k2]; rw [Nat.add_mul] at hsz2; simp only [Nat.zero_add]; omega
theorem papp_nil (h : Rel N Γ st ρ I a w) {t tx e e' ty : TypeId} {i : TypeInfo} {z : Value} (ht : G.P.underlying t = some (.slice e)) (hx : G.P.underlying tx = some (.slice e')) (hi : G.P.info? e = some i) (hz : i.zero = some z) (hzs : z.cells.size = i.size) (hsz : 0 < i.size)
    {m : Nat} {u : Value} {g : Nat → Nat → PV}
    (hu : ∃ ad cap, u = .slice ad m cap ∧ (m = 0 ∨ ∃ b o, ad = some ⟨b, o, none⟩ ∧ ∀ p, p < m → ∀ j, j < i.size → ∃ y, w.cell? ⟨b, o + p * i.size + j, none⟩ = some y ∧ y.oneCell' = true ∧ VRel st.mem.length ρ I w (g p j) y))
    (hm : 0 < m) (hb : m * i.bytes ≤ 140737488355328) (h63 : m ≤ 9223372036854775807) :
    ∃ v' w' ρ', (Builtin.append_ #[t, tx] ty #[.slice none 0 0, u]).run G.P w = .ok v' w' ∧ Appended N Γ st I a (.lsl (0 + st.mem.length) 0 m) (st.mem ++ [⟨.own, false, m, i.size, g⟩]) v' w' ρ' ∧ AppC st ρ w [] w' ρ' := by
  obtain ⟨news, hsrc, hnf⟩ := src_of hx hsz hu
  have hrun := run_append_grow_src (P := G.P) w t tx ty e i z ht hi hz none 0 0 [] (run_firstCells_none w.drew i.size 0 0 0) u m news hsrc (by omega) (by omega) (growslice_fits (by omega) (by simpa using hb))
  have := grown_app h e i.size 0 m (grownCap w (0 + m) 0 e) hsz [] news (Builtin.zeroCells z.cells (grownCap w (0 + m) 0 e - (0 + m))) g g g (grownCap_ge w _ _ _) (by rw [size_zeroCells, hzs]) (fun q => by rw [appF_ge _ _ (Nat.zero_le _)]; rfl) (by simp)
      (fun p hp => by omega) hsrc.newsLen hnf
  rw [Nat.zero_add m] at this hrun
  have hex := (ext_drew w).trans this.ext
  exact ⟨_, _, _, hrun, ⟨this.rel, this.val⟩, hex.size, fun b hb _ => hex.block b hb, this.same, .inl (by rw [this.new]; exact Nat.le_refl _)⟩
theorem papp_csl (h : Rel N Γ st ρ I a w) {t tx e e' ty : TypeId} {i : TypeInfo} {z : Value} (ht : G.P.underlying t = some (.slice e)) (hx : G.P.underlying tx = some (.slice e')) (hi : G.P.info? e = some i) (hz : i.zero = some z) (hzs : z.cells.size = i.size) (hsz : 0 < i.size)
    {n m : Nat} {f : Nat → Nat → PV} {v u : Value} (hv : VRel st.mem.length ρ I w (.csl n i.size f) v) {g : Nat → Nat → PV}
    (hu : ∃ ad cap, u = .slice ad m cap ∧ (m = 0 ∨ ∃ b o, ad = some ⟨b, o, none⟩ ∧ ∀ p, p < m → ∀ j, j < i.size → ∃ y, w.cell? ⟨b, o + p * i.size + j, none⟩ = some y ∧ y.oneCell' = true ∧ VRel st.mem.length ρ I w (g p j) y))
    (hm : 0 < m) (hb : (n + m) * i.bytes ≤ 140737488355328) (h63 : n + m ≤ 9223372036854775807) :
    ∃ v' w' ρ', (Builtin.append_ #[t, tx] ty #[v, u]).run G.P w = .ok v' w' ∧ Appended N Γ st I a (.lsl (0 + st.mem.length) 0 (n + m)) (st.mem ++ [⟨.own, false, n + m, i.size, appF n f g⟩]) v' w' ρ' ∧ AppC st ρ w [] w' ρ' := by
  obtain ⟨news, hsrc, hnf⟩ := src_of hx hsz hu
  obtain ⟨base, rfl, hv⟩ := hv
  have fin : ∀ (olds : List Value), olds.length = n * i.size → (Builtin.firstCells i.size n (.slice base n n)).run G.P w.drew = .ok olds.toArray w.drew →
      (∀ p, p < n → ∀ j, j < i.size → ∃ y, olds[p * i.size + j]? = some y ∧ y.oneCell' = true ∧ VRel st.mem.length ρ I w (f p j) y) →
      ∃ v' w' ρ', (Builtin.append_ #[t, tx] ty #[.slice base n n, u]).run G.P w = .ok v' w' ∧ Appended N Γ st I a (.lsl (0 + st.mem.length) 0 (n + m)) (st.mem ++ [⟨.own, false, n + m, i.size, appF n f g⟩]) v' w' ρ' ∧ AppC st ρ w [] w' ρ' := by
    intro olds hol hold hof
    have hrun := run_append_grow_src (P := G.P) w t tx ty e i z ht hi hz base n n olds hold u m news hsrc (by omega) (by omega) (growslice_fits (by omega) hb)
    have := grown_app h e i.size n m (grownCap w (n + m) n e) hsz olds news (Builtin.zeroCells z.cells (grownCap w (n + m) n e - (n + m))) f g _ (grownCap_ge w _ _ _) (by rw [size_zeroCells, hzs]) (fun _ => rfl) hol hof hsrc.newsLen hnf
    have hex := (ext_drew w).trans this.ext
    exact ⟨_, _, _, hrun, ⟨this.rel, this.val⟩, hex.size, fun b hb _ => hex.block b hb, this.same, .inl (by rw [this.new]; exact Nat.le_refl _)⟩
  rcases hv with rfl | ⟨b, o, rfl, hI, hc⟩
  · refine fin [] (by simp) ?_ (fun p hp => by omega)
    cases base with
    | none => exact run_firstCells_none w.drew i.size 0 0 0
    | some ad => exact run_firstCells_some w.drew i.size 0 ad 0 0 [] (by simp) (fun j u hj => by simp at hj)
  · have hold0 : ∀ p, p < n → ∀ j, j < i.size → ∃ y, w.cell? ⟨b, o + p * i.size + j, none⟩ = some y ∧ y.oneCell' = true ∧ VRel st.mem.length ρ I w (f p j) y := fun p hp j hj => by
      obtain ⟨y, g1, g2, g3⟩ := hc p hp j hj
      exact ⟨y, g1, g2, g3.of0⟩
    obtain ⟨olds, o1, o2, o3, o4⟩ := news_list (g := f) hsz hold0
    exact fin olds o1 (run_firstCells_some w.drew i.size n _ n n olds o1 (by simpa using o2)) o4
def appL (st : PSt) : Op → List Nat
  | .call c => match c.args.toList with
    | s :: _ => match str (st.ev s) with
      | .lsl l _ _ => [l]
      | _ => []
    | _ => []
  | _ => []
theorem papp_sound (h : Rel N Γ st ρ I a w) (o : Oper) {r : PV} {m : List Row} {pre : Prop} (hr : papp G.tab Γ.k0 st o.op = some (r, m, pre)) (hp : pre) :
    ∃ v w' ρ', (execOp a.eval o).run G.P w = .ok (.value v) w' ∧ Appended N Γ st I a r m v w' ρ' ∧ AppC st ρ w (appL st o.op) w' ρ' ∧ ∃ row rd, rd.s = .dead ∧ (m = st.mem ++ [row] ∨ ∃ l, m = st.mem.set l rd ++ [row]) := by
  cases ho : o.op with
  | call c =>
    rw [ho] at hr
    unfold papp at hr
    dsimp only at hr
    split at hr
    · rename_i bb hcallee
      split at hr
      · rename_i s x t t' hargs htys
        split at hr
        · rename_i e e' hk hk'
          obtain ⟨hsz, hr⟩ := cond_some hr
          rw [Nat.blt_eq] at hsz
          split at hr
          · rename_i z hz
            obtain ⟨hzs, hr⟩ := cond_some hr
            have hzs : z.cells.size = (tget G.tab e).sz := Nat.eq_of_beq_eq_true hzs
            obtain ⟨i, hi, hiz, his, hib⟩ := tab_zero G.ok hz
            have hu := tab_slice G.ok hk
            have hu' := tab_slice G.ok hk'
            rw [← his] at hr hsz hzs
            rw [← hib] at hr
            have hargs' : c.args = #[s, x] := by apply Array.ext'; simpa using hargs
            have htys' : c.argTypes = #[t, t'] := by apply Array.ext'; simpa using htys
            have hexec : ∀ v' w', (Builtin.append_ #[t, t'] o.type #[a.eval s, a.eval x]).run G.P w = .ok v' w' → (execOp a.eval o).run G.P w = .ok (.value v') w' := fun v' w' hrun => by
              simp only [execOp, ho, resolve, hcallee, hargs', htys', Sem.run_bind, Sem.run_pure, Result.andThen_ok, invoke, builtin]
              have : (#[s, x].map a.eval) = #[a.eval s, a.eval x] := by simp
              rw [this, hrun]; rfl
            split at hr
            · rename_i hs
              obtain ⟨mm, g, c', h1, h2⟩ := asrc_sound h hr
              rw [snocM_eq] at h1
              simp only [Option.some.injEq, Prod.mk.injEq] at h1
              obtain ⟨rfl, rfl, rfl⟩ := h1
              obtain ⟨hs1, hp⟩ := str_rel (ev_rel h s) hp
              obtain ⟨hx1, hp⟩ := str_rel (ev_rel h x) hp
              rw [hs] at hs1
              have hs1 : a.eval s = .slice none 0 0 := hs1
              obtain ⟨p1, p2, p3, p4⟩ := hp
              obtain ⟨v', w', ρ', q1, q2, q3⟩ := papp_nil h hu hu' hi hiz hzs hsz (ty := o.type) (h2 p1 _ hx1) p2 p3 p4
              rw [← hs1] at q1
              have hL : appL st (.call c) = [] := by simp only [appL, hargs, hs]
              exact ⟨v', w', ρ', hexec v' w' q1, q2, by rw [hL]; exact q3, _, ⟨.dead, false, 0, 0, fun _ _ => .junk⟩, rfl, .inl rfl⟩
            · rename_i n sz f hs
              obtain ⟨hrs0, hr2⟩ := cond_some hr
              clear hr
              have hrs : sz = i.size := Nat.eq_of_beq_eq_true hrs0
              clear hrs0
              subst hrs
              obtain ⟨mm, g, c', h1, h2⟩ := asrc_sound h hr2
              rw [snocM_eq] at h1
              simp only [Option.some.injEq, Prod.mk.injEq] at h1
              obtain ⟨rfl, rfl, rfl⟩ := h1
              obtain ⟨hs1, hp⟩ := str_rel (ev_rel h s) hp
              obtain ⟨hx1, hp⟩ := str_rel (ev_rel h x) hp
              rw [hs] at hs1
              obtain ⟨p1, p2, p3, p4⟩ := hp
              obtain ⟨v', w', ρ', q1, q2, q3⟩ := papp_csl h hu hu' hi hiz hzs hsz (ty := o.type) hs1 (h2 p1 _ hx1) p2 p3 p4
              have hL : appL st (.call c) = [] := by simp only [appL, hargs, hs]
              exact ⟨v', w', ρ', hexec v' w' q1, q2, by rw [hL]; exact q3, _, ⟨.dead, false, 0, 0, fun _ _ => .junk⟩, rfl, .inl rfl⟩
            · rename_i l xx n hs
              rw [rowAt_get] at hr
              split at hr
              · rename_i row hrow
                split at hr
                · rename_i hown
                  obtain ⟨hrs, hr⟩ := cond_some hr
                  have hrs : row.sz = i.size := Nat.eq_of_beq_eq_true hrs
                  obtain ⟨mm, g, c', h1, h2⟩ := asrc_sound h hr
                  rw [setM_eq, snocM_eq] at h1
                  simp only [Option.some.injEq, Prod.mk.injEq] at h1
                  obtain ⟨rfl, rfl, rfl⟩ := h1
                  obtain ⟨hs1, hp⟩ := str_rel (ev_rel h s) hp
                  obtain ⟨hx1, hp⟩ := str_rel (ev_rel h x) hp
                  rw [hs] at hs1
                  obtain ⟨p1, p2, p3, p4, p5⟩ := hp
                  obtain ⟨v', w', ρ', q1, q2, q3⟩ := papp_lsl h hu hu' hi hiz hzs hsz (ty := o.type) hrow hown hrs hs1 (h2 p1 _ hx1) p2 p3 p4 p5 ⟨.dead, row.one, row.n, row.sz, row.f⟩ rfl
                  simp only [List.length_set]
                  have hL : appL st (.call c) = [l] := by simp only [appL, hargs, hs]
                  exact ⟨v', w', ρ', hexec v' w' q1, q2, by rw [hL]; exact q3, _, ⟨.dead, row.one, row.n, row.sz, row.f⟩, rfl, .inr ⟨l, rfl⟩⟩
                · cases hr
              · cases hr
            · cases hr
          · cases hr
        · cases hr
      · cases hr
    · cases hr
  | _ => rw [ho] at hr; cases hr
variable {K : Exit → PSt → Prop} {ops : Array Oper} {o : Oper} {rest : List Oper} {d : Nat} {r : PV} {pre : Prop} {m : List Row}
theorem pop_app (hg : o.guard = none) (hd : o.dst = some d) (hN : Nat.blt d N = true) (hr : papp G.tab Γ.k0 st o.op = some (r, m, pre)) (hp : pre) (h : POps G N Γ ops rest (PSt.put ⟨st.tm, m⟩ d r) K) : POps G N Γ ops (o :: rest) st K := .mk fun ρ I a w hrel => by
  obtain ⟨v, w', ρ', hv, hm, _⟩ := papp_sound hrel o hr hp
  have hw : Region.wanted o (yielded ops a.tmps) = true := by simp [Region.wanted, hg]
  simp only [wpList, hw, if_true]
  refine .inl ?_
  simp only [Oper.wp, hv, Oper.upon_value, hd]
  exact h.go ρ' I _ w' (hm.rel.put (by rwa [Nat.blt_eq] at hN) hm.val)
end
section
variable {G : Pg2} {N : Nat} {Γ : Fr} {st : PSt} {K' : PSt → Prop} {ops : Array Oper} {o : Oper} {d : Nat} {r : PV} {pre : Prop} {m : List Row}
theorem pst_app {ch : List Nat} (hg : o.guard = none) (hd : o.dst = some d) (hN : Nat.blt d N = true) (hr : papp G.tab Γ.k0 st o.op = some (r, m, pre)) (hp : pre) (hch : appL st o.op = ch) (h : K' (PSt.put ⟨st.tm, m⟩ d r)) : PStep G N Γ ops o st ch true K' := .mk fun ρ I a w hrel Q => by
  obtain ⟨v, w', ρ', hv, hm, hc, row, rd, hrd, hmm⟩ := papp_sound (G := G.toPg) hrel o hr hp
  subst hch
  have hw : Region.wanted o (yielded ops a.tmps) = true := by simp [Region.wanted, hg]
  rw [if_pos hw]
  simp only [Oper.wp, hv, Oper.upon_value, hd]
  have hsplit : ∀ k (r' : Row), m[k]? = some r' → r'.s.live → (k < st.mem.length ∧ st.mem[k]? = some r') ∨ k = st.mem.length := fun k r' hk hs => by
    rcases hmm with rfl | ⟨l, rfl⟩
    · by_cases hlt : k < st.mem.length
      · rw [List.getElem?_append_left hlt] at hk; exact .inl ⟨hlt, hk⟩
      · have := lt_get hk; simp at this; exact .inr (by omega)
    · by_cases hlt : k < st.mem.length
      · rw [List.getElem?_append_left (by simpa using hlt)] at hk
        by_cases e : k = l
        · subst e
          rw [List.getElem?_set_self hlt] at hk
          simp only [Option.some.injEq] at hk
          rw [← hk, hrd] at hs; exact hs.elim
        · rw [List.getElem?_set_ne (Ne.symm e)] at hk; exact .inl ⟨hlt, hk⟩
      · have := lt_get hk; simp at this; exact .inr (by omega)
  refine ⟨_, ρ', I, h, hm.rel.put (by rwa [Nat.blt_eq] at hN) hm.val, hc.size, hc.same, hc.loc, fun _ _ h => h, fun k r' hk hs => ?_, fun k r' hk hs => ?_⟩
  · rcases hsplit k r' hk hs with ⟨h1, h2⟩ | rfl
    · exact .inl ⟨h1, r', h2, hs⟩
    · exact .inr ⟨Nat.le_refl _, hc.new⟩
  · rcases hsplit k r' hk (RS.live_of_own hs) with ⟨h1, h2⟩ | rfl
    · exact .inl ⟨h1, r', h2, hs⟩
    · exact .inr ⟨Nat.le_refl _, hc.new⟩
end
end Go.Proofs.YtcefhgomkehokaaGreat
