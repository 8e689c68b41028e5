/- Loops, round by round. -/
import Derived.Test.YtcghpepighboaaaDoorPvRows3
import Derived.LoopN
import Derived.Test.YtcghpepighboaaaDoorPvG
set_option linter.unusedSimpArgs false
set_option linter.unusedVariables false
set_option maxRecDepth 100000
namespace Go.Proofs.YtcghpepighboaaaDoor
open Go.RowKit
section
variable {G : Pg} {N : Nat} {Γ : Fr} {st : PSt} {K : Exit → PSt → Prop} {c : Code}
structure PRounds (G : Pg) (N : Nat) (Γ : Fr) (c : Code) (K : Exit → PSt → Prop) (n : Nat) (st : PSt) : Prop where
  go : ∀ ρ I a w, Rel N Γ st ρ I a w → Code.rounds G.P c (Qf N Γ K) n a w
def KroundF (G : Pg) (N : Nat) (Γ : Fr) (c : Code) (K : Exit → PSt → Prop) (n : Nat) : Exit → PSt → Prop
  | .normal, st => ∃ st', Can N Γ st st' ∧ PRounds G N Γ c K n st'
  | e, st => K e st
structure Kround (G : Pg) (N : Nat) (Γ : Fr) (c : Code) (K : Exit → PSt → Prop) (n : Nat) (e : Exit) (st : PSt) : Prop where
  go : KroundF G N Γ c K n e st
theorem kround_ret {n : Nat} (h : K .ret st) : Kround G N Γ c K n .ret st := ⟨h⟩
theorem kround_exit {n id : Nat} (h : K (.exit id) st) : Kround G N Γ c K n (.exit id) st := ⟨h⟩
theorem pround {n : Nat} (h : PWp G N Γ c st (Kround G N Γ c K n)) : PRounds G N Γ c K (n + 1) st := .mk fun ρ I a w hr => by
  refine wp_mono (h.go ρ I a w hr) fun e a w ⟨h1, st, ρ, I, h2, h3⟩ => ?_
  cases e with
  | normal =>
    obtain ⟨st', hc, hk⟩ := h2.go
    obtain ⟨ρ', I', hr'⟩ := hc ρ I a w h3
    exact hk.go ρ' I' a w hr'
  | _ => exact ⟨h1, st, ρ, I, h2.go, h3⟩
theorem kround_next {n : Nat} (h : PWp G N Γ c st (Kround G N Γ c K n)) : Kround G N Γ c K (n + 1) .normal st := ⟨st, Can.refl, pround h⟩
theorem kround_can {n : Nat} {st' : PSt} (hc : Can N Γ st st') (h : PWp G N Γ c st' (Kround G N Γ c K n)) : Kround G N Γ c K (n + 1) .normal st := ⟨st', hc, pround h⟩
theorem ploopN (n : Nat) (h : PWp G N Γ c st (Kround G N Γ c K n)) : PWp G N Γ (.loop c) st K := .mk fun ρ I a w hr => wp_loop_rounds (n + 1) ((pround h).go ρ I a w hr)
end
section
variable {G : Pg2} {N : Nat} {Γ : Fr} {st : PSt} {ops : Array Oper} {o : Oper} {d : Nat}
theorem pst_rowsg {K' : PSt → Prop} {j : Nat} {want : Bool} {f : FuncId} {x : Operand} {args : Array Operand} {tys : Array TypeId} {n : Nat} {c : Nat → PV} {rows : List Row} {qs : List PV} {post : PV → List Row → Prop} (sel : List Nat) (hg : o.guard = some (j, want)) (hdst : o.dst = some d) (hN : Nat.blt d N = true) (hgv : gval ops st j want = some true)
    (ho : o.op = .call ⟨.value x, args, tys⟩) (hx : str (st.ev x) = .clo f n c) (hxp : strP (st.ev x) True) (hd : nodupB sel = true) (hs : SelOk st.mem sel sel rows) (hc : RowsC G.P f rows qs post) (ha : PEqL ((args.toList.map st.ev ++ capL n c 0).map (PV.ren (inv sel 0))) qs)
    (h : ∀ r rows', post r rows' → ∃ m r', putK (tau sel (lenK st.mem 0)) sel rows' st.mem some = some m ∧ force (r.ren (tau sel (lenK st.mem 0))) (fun p => some (p, True)) = some (r', True) ∧ K' (PSt.put ⟨st.tm, m⟩ d (.opt true r'))) : PStep G N Γ ops o st sel false K' := .mk fun ρ I a w hrel Q => by
  have hw := gval_sound hrel hg hgv
  rw [if_pos hw]
  have hx0 := (str_rel (ev_rel hrel x) hxp).1
  rw [hx] at hx0
  refine rows_core (G := G.toPg) sel hrel ho hx0 hd hs hc ha ?_
  intro v r rows' ρ2 I' w' hpost hr hch hv
  obtain ⟨m, r', e1, e2, hk⟩ := h r rows' hpost
  rw [putK_eq, lenK_eq, Nat.zero_add] at e1
  rw [force_eq, lenK_eq, Nat.zero_add] at e2
  simp only [Option.some.injEq, Prod.mk.injEq, and_true] at e1 e2
  rw [e1] at hr hv hch
  rw [e2] at hv
  rw [hdst]
  exact ⟨_, ρ2, I', hk, hr.put (by rwa [Nat.blt_eq] at hN) ⟨fun _ => hv, by simp⟩, hch.size, hch.same, hch.loc, hch.imm, hch.live, hch.own⟩
end
def tI (g : Nat → Int) : Nat → Nat → PV := fun i _ => vi (g i)
def tapeRow (n : Nat) (g : Nat → Int) (at_ : Int) : Row := ⟨.own, true, 1, 2, fun _ => nthP [.vsl n 1 (tI g), vi at_]⟩
theorem tape_cl (n : Nat) (g : Nat → Int) (at_ : Int) : rowCl (tapeRow n g at_) := fun i _ j _ => clL_nth _ j ⟨trivial, trivial, trivial⟩
theorem tmod_cases (a k : Int) (h1 : 1 ≤ k) : (a.tmod k < 0 → a.tmod k + k = a % k) ∧ (¬ a.tmod k < 0 → a.tmod k = a % k) ∧ -k < a.tmod k ∧ a.tmod k < k := by
  have h0 := Int.emod_nonneg a (show k ≠ 0 by omega)
  have h2 := Int.emod_lt_of_pos a (show 0 < k by omega)
  by_cases hs : 0 ≤ a
  · rw [Int.tmod_eq_emod_of_nonneg hs]; omega
  · have := Int.tmod_eq_emod (a := a) (b := k)
    rw [this]
    have hn : (k.natAbs : Int) = k := by omega
    split <;> omega
def viL : List Int → List PV
  | [] => []
  | x :: l => vi x :: viL l
theorem viL_nth : ∀ (l : List Int) (i : Nat), i < l.length → nthP (viL l) i = vi (l.getD i 0)
  | [], i, h => by simp at h
  | x :: l, 0, _ => rfl
  | x :: l, i + 1, h => by rw [viL, nthP, viL_nth l i (by simpa using h)]; simp [List.getD]
def pkRow (l : List Int) : Row := ⟨.own, false, l.length, 1, fun a _ => vi (l.getD a 0)⟩
theorem pk_eq {τ : Nat → Option Nat} (l : List Int) : RowEq (Row.ren τ ⟨.own, false, l.length, 1, fun a b => nthP (viL l) (a * 1 + b)⟩) (pkRow l) := by
  refine ⟨rfl, rfl, Nat.le_refl _, fun i hi j hj => ?_⟩
  have hj0 : j = 0 := by simp [pkRow] at hj; exact hj
  subst hj0
  have e : nthP (viL l) (i * 1 + 0) = vi (l.getD i 0) := by rw [Nat.mul_one, Nat.add_zero]; exact viL_nth l i hi
  show PEq ((nthP (viL l) (i * 1 + 0)).ren τ) (vi (l.getD i 0))
  rw [e]; exact PEq.refl _
theorem pk_cl (l : List Int) : rowCl (pkRow l) := fun _ _ _ _ => trivial
section
variable {G : Pg2} {N : Nat} {Γ : Fr} {st : PSt} {K' : PSt → Prop} {ops : Array Oper} {o : Oper} {d : Nat}
theorem pst_ptr {f : FuncId} {x x0 : Operand} {xs : List Operand} {args : Array Operand} {tys : Array TypeId} {c : Nat → PV} {l : Nat} {row : Row} {qs : List PV} {post : PV → Row → Prop} {m : Row → List Row} (L : List Nat) (hg : o.guard = none) (hd : o.dst = some d) (hN : Nat.blt d N = true) (ho : o.op = .call ⟨.value x, args, tys⟩) (hx : st.ev x = .clo f 0 c) (ha0 : args.toList = x0 :: xs) (hp : st.ev x0 = .ptr l 0 0) (hrow : rowAt st.mem l = some row) (hown : ownB row = true) (hm : ∀ row', frzK L st.mem 0 (fun m0 => setM m0 l row' some) = some (m row')) (hlL : (L.any (Nat.beq l)) = false)
    (hcl : rowCl row) (hLk : ∀ l', l' ∈ L → Γ.k0 ≤ l') (hc : PtrC G.P f row qs post) (ha : ArgsOk st.mem L (xs.map st.ev) qs)
    (h : ∀ r row', post r row' → K' (PSt.put ⟨st.tm, m row'⟩ d r)) : PStep G N Γ ops o st [l] false K' := .mk fun ρ I a w hrel Q => by
  have hw : Region.wanted o (yielded ops a.tmps) = true := by simp [Region.wanted, hg]
  rw [if_pos hw]
  rw [rowAt_get] at hrow
  have hlL' : l ∉ L := fun hl => by rw [(any_beq L l).2 hl] at hlL; cases hlL
  refine ptr_core (G := G.toPg) L hrel ho hx ha0 hp hrow (ownB_eq hown) hcl hlL' hc ha ?_
  intro v r row' w' hpost hk hv hrin
  have hkk := h r row' hpost
  have hmm : m row' = (frzL L 0 st.mem).set l row' := by have := hm row'; rw [frzK_eq, setM_eq] at this; simpa using this.symm
  simp only [hd]
  have hfr := hrel.freeze L hLk
  have hrel' := hfr.ptrCall (frzL_keep L st.mem 0 l row hrow (by simpa using hlL')) (ownB_eq hown) hk (I' := fun b => ASet ρ I st.mem L b ∨ (w.heap.size ≤ b ∧ b < w'.heap.size)) (fun b hb => .inl hb) (fun b hb => hb) hrin
  rw [← hmm] at hrel'
  have hio : row.s.isOwn := by rw [ownB_eq hown]; trivial
  have hsplit : ∀ k (r' : Row), (m row')[k]? = some r' → k < st.mem.length ∧ ((∃ r0, st.mem[k]? = some r0 ∧ True ∧ (r'.s = r0.s ∨ (r'.s = .imm ∧ r0.s = .own))) ∨ k = l) := fun k r' hk => by
    rw [hmm] at hk
    have hlt := lt_get hk
    refine ⟨by simpa [frzL_length] using hlt, ?_⟩
    by_cases he : k = l
    · exact .inr he
    · rw [List.getElem?_set_ne (Ne.symm he)] at hk
      obtain ⟨r0, e1, _, _, _, e5, _⟩ := frzL_get L st.mem 0 k r' hk
      exact .inl ⟨r0, e1, trivial, e5.imp id fun h => ⟨h.1, h.2.1⟩⟩
  refine ⟨_, ρ, _, hkk, hrel'.put (by rwa [Nat.blt_eq] at hN) hv.of0, hk.size, fun b hb hne => hk.block b hb (hne l row (by simp) hrow hio), fun _ _ => rfl, (fun h => by cases h), fun k r' hk hs => ?_, fun k r' hk hs => ?_⟩
  · obtain ⟨h1, ⟨r0, h2, _, h3⟩ | rfl⟩ := hsplit k r' hk
    · refine .inl ⟨h1, r0, h2, ?_⟩
      rcases h3 with h3 | ⟨_, h3⟩
      · rw [← h3]; exact hs
      · rw [h3]; trivial
    · exact .inl ⟨h1, row, hrow, RS.live_of_own hio⟩
  · obtain ⟨h1, ⟨r0, h2, _, h3⟩ | rfl⟩ := hsplit k r' hk
    · refine .inl ⟨h1, r0, h2, ?_⟩
      rcases h3 with h3 | ⟨_, h3⟩
      · rw [← h3]; exact hs
      · rw [h3]; trivial
    · exact .inl ⟨h1, row, hrow, hio⟩
end
structure AnyI (G : Pg2) (N : Nat) (Γ : Fr) (ops : Array Oper) (H : List Nat) (ni : Bool) (fuel : Nat) (listed : Array Bool) (st : PSt) (K : Exit → PSt → Prop) (i : Nat) : Prop where
  go : ∃ o ch nk, ops[i]? = some o ∧ chB H ch = true ∧ PStep G N Γ ops o st ch nk (fun st' => PAny G N Γ ops H (ni && nk) fuel (listed.setIfInBounds i true) st' K)
def AllI (p : Nat → Prop) : List Nat → Prop
  | [] => True
  | i :: r => p i ∧ AllI p r
theorem AllI.get {p : Nat → Prop} : ∀ {l : List Nat}, AllI p l → ∀ i, i ∈ l → p i
  | [], _, i, h => by cases h
  | j :: r, h, i, hi => by
    rcases List.mem_cons.1 hi with rfl | hi
    · exact h.1
    · exact AllI.get h.2 i hi
section
variable {G : Pg2} {N : Nat} {Γ : Fr} {st : PSt} {K : Exit → PSt → Prop} {ops : Array Oper} {o : Oper} {H : List Nat} {ni : Bool} {fuel : Nat} {listed : Array Bool}
theorem any_i (i : Nat) {ch : List Nat} {nk : Bool} (hi : ops[i]? = some o) (hchb : chB H ch = true) (hstep : PStep G N Γ ops o st ch nk (fun st' => PAny G N Γ ops H (ni && nk) fuel (listed.setIfInBounds i true) st' K)) : AnyI G N Γ ops H ni fuel listed st K i := ⟨⟨o, ch, nk, hi, hchb, hstep⟩⟩
theorem any_many (rs : List Nat) (hready : Region.ready .any ops listed = rs) (hne : rs ≠ []) (hHb : inB st.mem.length H = true) (h : AllI (AnyI G N Γ ops H ni fuel listed st K) rs) : PAny G N Γ ops H ni (fuel + 1) listed st K := .mk fun HB w1 ρ I a w hrel hinv => by
  have hH := inB_spec H hHb
  refine wpAnyH_all hready hne (fun j hj => ?_)
  obtain ⟨o, ch, nk, hi, hchb, hstep⟩ := (h.get j hj).go
  have hch := chB_spec hchb
  unfold wpOp
  simp only [hi]
  have hs := hstep.go ρ I a w hrel (Qf N Γ K)
  by_cases hw : Region.wanted o (yielded ops a.tmps) = true
  · rw [if_pos hw] at hs ⊢
    refine .inl (Oper.wp_mono (fun a' w' => ?_) hs)
    rintro ⟨st', ρ', I', hk, hrel', hc⟩
    have hinv' := hinv.step hc hch hH
    exact ⟨hinv'.same, hk.go HB w1 ρ' I' a' w' hrel' hinv'⟩
  · rw [if_neg hw] at hs ⊢
    obtain ⟨st', ρ', I', hk, hrel', hc⟩ := hs
    have hinv' := hinv.step hc hch hH
    exact ⟨hinv'.same, hk.go HB w1 ρ' I' _ w hrel' hinv'⟩
end
def unL : List PV → List Int
  | .val (.int _ x) :: r => x :: unL r
  | _ => []
def vlist (l : List Int) : Nat → Nat → PV := fun a _ => vi (l.getD a 0)
theorem argPick {mem : List Row} {L : List Nat} {l m : Nat} {ps : List PV} (hr : rowAt mem l = some ⟨.own, false, m, 1, fun a b => nthP ps (a * 1 + b)⟩) (hL : l ∈ L) (hps : viL (unL ps) = ps) (hm : (unL ps).length = m) : ArgOk mem L (.lsl l 0 m) (.vsl m 1 (vlist (unL ps))) := by
  refine argLsl (r := ⟨.own, false, m, 1, fun a b => nthP ps (a * 1 + b)⟩) hr trivial hL (by simp) fun a ha b hb => ⟨?_, trivial⟩
  have hb0 : b = 0 := by simpa using hb
  subst hb0
  show nthP ps ((0 + a) * 1 + 0) = _
  rw [Nat.zero_add, Nat.mul_one, Nat.add_zero]
  conv => lhs; rw [← hps]
  exact viL_nth _ _ (by omega)
theorem var_eq {τ : Nat → Option Nat} {k : Nat} {l l' : List PV} (h : PEqL (l.map (PV.ren τ)) l') : RowEq (Row.ren τ ⟨.own, true, 1, k, fun _ => nthP l⟩) ⟨.own, true, 1, k, fun _ => nthP l'⟩ := by
  refine ⟨rfl, rfl, Nat.le_refl _, fun i hi j hj => ?_⟩
  show PEq ((nthP l j).ren τ) (nthP l' j)
  rw [← nthP_ren]
  by_cases hl : j < (l.map (PV.ren τ)).length
  · exact h.get.2 j hl
  · have e := h.get.1
    rw [nthP_out _ _ (by omega), nthP_out _ _ (by omega)]; exact PEq.refl _
def selB : Nat → Nat → List Nat → Bool
  | 0, _, _ => true
  | k + 1, i, x :: r => Nat.beq x i && selB k (i + 1) r
  | _ + 1, _, [] => false
theorem selB_ok : ∀ (k i : Nat) (sel : List Nat), selB k i sel = true → k ≤ sel.length ∧ ∀ j, j < k → sel[j]? = some (i + j)
  | 0, _, _, _ => ⟨Nat.zero_le _, fun j hj => absurd hj (Nat.not_lt_zero j)⟩
  | k + 1, i, [], h => by simp [selB] at h
  | k + 1, i, x :: r, h => by
    simp only [selB, Bool.and_eq_true] at h
    obtain ⟨h1, h2⟩ := selB_ok k (i + 1) r h.2
    refine ⟨by simp; exact h1, fun j hj => ?_⟩
    cases j with
    | zero => rw [Nat.eq_of_beq_eq_true h.1]; rfl
    | succ j => simp only [List.getElem?_cons_succ]; rw [h2 j (by omega)]; congr 1; omega
theorem k0_sel {Γ : Fr} {k : Nat} {sel : List Nat} (h : Γ.k0 = k) (hb : selB k 0 sel = true) : Γ.k0 ≤ sel.length ∧ ∀ i, i < Γ.k0 → sel[i]? = some i := by
  subst h
  obtain ⟨h1, h2⟩ := selB_ok _ _ _ hb
  exact ⟨h1, fun i hi => by rw [h2 i hi, Nat.zero_add]⟩
theorem wb1 (n : Int) : -9223372036854775808 ≤ IntKind.i64.wrap n := by
  simp only [IntKind.wrap, IntKind.bits, IntKind.signed]; simp; split <;> omega
theorem wb2 (n : Int) : IntKind.i64.wrap n ≤ 9223372036854775807 := by
  simp only [IntKind.wrap, IntKind.bits, IntKind.signed]; simp; split <;> omega
end Go.Proofs.YtcghpepighboaaaDoor
