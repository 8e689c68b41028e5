/- Freezing of rows; calls of closures that read frozen memory; rows of numbers. -/
import Derived.Test.YtcghpepighboaaaDoorPvLib2
set_option linter.unusedSimpArgs false
set_option linter.unusedVariables false
set_option maxRecDepth 100000
namespace Go.Proofs.YtcghpepighboaaaDoor

theorem argPtr {mem : List Row} {L : List Nat} {l n sz i j : Nat} {r : Row} {f : Nat → Nat → PV} (hr : rowAt mem l = some r) (hs : r.s.live) (hL : l ∈ L) (hn : n ≤ r.n) (hsz : sz = r.sz) (hc : ∀ a, a < n → ∀ b, b < sz → ArgOk mem L (r.f a b) (f a b)) : ArgOk mem L (.ptr l i j) (.vptr n sz f i j) := by
  rintro ρ I w v hm ⟨hl, rfl⟩
  rw [rowAt_get] at hr
  obtain ⟨h1, cs, T, hc1, hc2⟩ := hm.row l r hr hs
  refine ⟨(ρ l).b, (ρ l).o, by rw [h1, hsz], .inr ⟨l, r, hL, hr, hs, rfl⟩, fun a ha b hb => ?_⟩
  obtain ⟨u, g1, g2, g3⟩ := hc2 a (by omega) b (by omega)
  exact ⟨u, by simp only [World.cell?, hc1, hsz]; exact g1, g2, hc a ha b hb ρ I w u hm g3⟩
theorem argLsl' {mem : List Row} {L : List Nat} {l i n : Nat} {r : Row} {f : Nat → Nat → PV} (hr : rowAt mem l = some r) (hs : r.s.live) (hL : l ∈ L) (hn : i + n ≤ r.n) (hc : ∀ a, a < n → ∀ b, b < r.sz → ArgOk mem L (r.f (i + a) b) (f a b)) : ArgOk mem L (.lsl l i n) (.vsl n r.sz f) := by
  rintro ρ I w v hm ⟨hl, h⟩
  rw [rowAt_get] at hr
  rcases h with ⟨rfl, ad, rfl⟩ | ⟨cap, h1, rfl, h2⟩
  · exact ⟨ad, 0, rfl, Nat.le_refl _, .inl rfl⟩
  · refine ⟨_, cap, rfl, h1, .inr ⟨(ρ l).b, (ρ l).o + i * (ρ l).sz, rfl, .inr ⟨l, r, hL, hr, hs, rfl⟩, fun a ha b hb => ?_⟩⟩
    obtain ⟨hsz, cs, T, hc1, hc2⟩ := hm.row l r hr hs
    obtain ⟨u, g1, g2, g3⟩ := hc2 (i + a) (by omega) b hb
    refine ⟨u, ?_, g2, hc a ha b hb ρ I w u hm g3⟩
    have : (ρ l).o + i * (ρ l).sz + a * r.sz + b = (ρ l).o + (i + a) * r.sz + b := by rw [hsz, Nat.add_mul]; omega
    simp only [World.cell?, hc1, this]
    exact g1
theorem argClo {mem : List Row} {L : List Nat} {f : FuncId} {n : Nat} {c c' : Nat → PV} (h : ∀ i, i < n → ArgOk mem L (c i) (c' i)) : ArgOk mem L (.clo f n c) (.clo f n c') := by
  rintro ρ I w v hm ⟨vs, h1, h2, h3⟩
  exact ⟨vs, h1, h2, fun i hi => h i hi ρ I w _ hm (h3 i hi)⟩
theorem argClo1 {mem : List Row} {L : List Nat} {f : FuncId} {c c' : Nat → PV} (h : ArgOk mem L (c 0) (c' 0)) : ArgOk mem L (.clo f 1 c) (.clo f 1 c') := argClo fun i hi => by
  obtain rfl : i = 0 := by omega
  exact h
/-- slots behind the freezing of the rows L -/
def TmF (st : PSt) (L : List Nat) : List (Nat × PV) → Prop
  | [] => True
  | (t, q) :: r => (st.get t = q ∨ ArgOk st.mem L (st.get t) q) ∧ TmF st L r
section
variable {N : Nat} {Γ : Fr} {st : PSt}
theorem tmF_slot {L : List Nat} {ρ : Nat → Loc} {I : Nat → Prop} {a : Act} {w : World} (hm : MRel ρ I w st.mem) (hs : ∀ t, VRel st.mem.length ρ I w (st.get t) (a.tmps.getD t undef)) (hs' : ∀ t, VRel st.mem.length ρ (ASet ρ I st.mem L) w (st.get t) (a.tmps.getD t undef)) : ∀ (tm : List (Nat × PV)), TmF st L tm → ∀ t, VRel st.mem.length ρ (ASet ρ I st.mem L) w (look t tm) (a.tmps.getD t undef)
  | [], _, t => trivial
  | (s, q) :: r, h, t => by
    simp only [look]
    cases hb : Nat.beq t s
    · exact tmF_slot hm hs hs' r h.2 t
    · rw [Nat.eq_of_beq_eq_true hb]
      rcases h.1 with e | e
      · show VRel _ _ _ _ q _
        rw [← e]; exact hs' s
      · exact (e ρ I w _ hm (hs s)).of0
theorem can_frz (L : List Nat) {tm : List (Nat × PV)} {m : List Row} (hL : ∀ l, l ∈ L → Γ.k0 ≤ l) (hm0 : frzK L st.mem 0 some = some m) (ht : TmF st L tm) : Can N Γ st ⟨tm, m⟩ := fun ρ I a w h => by
  have hm : frzL L 0 st.mem = m := by rw [frzK_eq] at hm0; simpa using hm0
  subst hm
  have hf := h.freeze L hL
  refine ⟨ρ, _, hf.fr, hf.defers, hf.size, fun t => ?_⟩
  have hs' := hf.slot
  simp only [frzL_length] at hs' ⊢
  exact tmF_slot h.fr.m h.slot hs' tm ht t
end
section
variable {G : Pg2} {N : Nat} {Γ : Fr} {st : PSt} {K' : PSt → Prop} {K : Exit → PSt → Prop} {ops : Array Oper} {o : Oper} {rest : List Oper} {d : Nat}
theorem PEqL.arel {mem : List Row} {L : List Nat} : ∀ {ps qs : List PV}, PEqL ps qs → clBL qs = true → ArgsOk mem L ps qs
  | [], [], _, _ => trivial
  | p :: ps, q :: qs, h, hc => by
    simp only [clBL, Bool.and_eq_true] at hc
    exact ⟨fun ρ I w v hm hv => argCl (mem := mem) (clB_spec q hc.1) ρ I w v hm (h.1 _ _ _ _ _ hv), PEqL.arel h.2 hc.2⟩
  | [], _ :: _, h, _ => h.elim
  | _ :: _, [], h, _ => h.elim
theorem strL_rel {ρ : Nat → Loc} {I : Nat → Prop} {a : Act} {w : World} (h : Rel N Γ st ρ I a w) : ∀ (l : List Operand), strPL (l.map st.ev) → ∀ i, i < ((l.map st.ev).map str).length → VRel st.mem.length ρ I w (nthP ((l.map st.ev).map str) i) ((l.map a.eval).getD i undef)
  | [], _, i, hi => by simp at hi
  | x :: l, hp, 0, _ => by
    simp only [List.map_cons, strPL] at hp
    exact (str_rel (ev_rel h x) hp).1
  | x :: l, hp, i + 1, hi => by
    simp only [List.map_cons, strPL] at hp
    have := strL_rel h l (str_rel (ev_rel h x) hp).2 i (by simpa using hi)
    simpa [nthP] using this
/-- a closure whose captured values are closed: a function of values; under a guard -/
theorem pst_clo {j : Nat} {want g : Bool} {f : FuncId} {x : Operand} {args : Array Operand} {tys : Array TypeId} {n : Nat} {c : Nat → PV} {qs : List PV} {X : PV} (hg : o.guard = some (j, want)) (hd : o.dst = some d) (hN : Nat.blt d N = true) (hgv : gval ops st j want = some g) (ho : o.op = .call ⟨.value x, args, tys⟩)
    (hx : str (st.ev x) = .clo f n c) (hxp : g = true → strP (st.ev x) True) (hc : g = true → PureC G.P f qs (fun r => r = X)) (hp : g = true → strPL (args.toList.map st.ev)) (hq : g = true → PEqL ((args.toList.map st.ev).map str ++ capL n c 0) qs) (hcl : clBL qs = true) (hs : scB X = true)
    (h : K' (st.put d (.opt g X))) : PStep G N Γ ops o st [] true K' := .mk fun ρ I a w hrel Q => by
  have hw := gval_sound hrel hg hgv
  cases g
  · rw [hw]
    simp only [Bool.false_eq_true, if_false, hd]
    exact ⟨_, ρ, I, h, hrel.put (by rwa [Nat.blt_eq] at hN) ⟨by simp, fun _ => rfl⟩, Chg.refl (Ext.refl w) d _⟩
  · rw [hw]
    simp only [if_true]
    have hc := hc rfl
    have hx0 := (str_rel (ev_rel hrel x) (hxp rfl)).1
    rw [hx] at hx0
    obtain ⟨cap, e1, e2, e3⟩ := hx0
    simp only [Oper.wp, call_run hc.1 ho e1, Oper.upon_enter]
    have hA := args_sound hrel.fr.m (L := []) _ qs (args.toList.map a.eval ++ cap.toList) ((hq rfl).arel hcl) (fun i hi => by
      have h1 := strL_rel hrel args.toList (hp rfl)
      rw [nthP_append]
      split
      · rename_i hlt
        have := h1 i hlt
        have hlt2 : i < (args.toList.map a.eval).length := by simpa using hlt
        rw [List.getD_eq_getElem?_getD, List.getElem?_append_left hlt2, ← List.getD_eq_getElem?_getD]
        exact this
      · rename_i hge
        simp only [List.length_append, capL_length, List.length_map] at hi hge ⊢
        rw [capL_nth _ _ _ _ (by omega), Nat.zero_add]
        have hge2 : (args.toList.map a.eval).length ≤ i := by rw [List.length_map]; omega
        rw [List.getD_eq_getElem?_getD, List.getElem?_append_right hge2]
        have := e3 (i - args.toList.length) (by omega)
        simpa [Array.getD_eq_getD_getElem?, List.length_map] using this) (by simp [capL_length, e2])
    have hcall := hc.2 ρ (ASet ρ I st.mem []) w (args.toList.map a.eval ++ cap.toList) (fun b hb => by
      rcases hb with hb | ⟨l, r, _, hr, hs, rfl⟩
      · exact hrel.fr.m.lt b hb
      · exact hrel.lt hr hs) (hrel.fr.gl.sub fun b hb => .inl hb) hA
    have eargs : (args.map a.eval ++ cap) = (args.toList.map a.eval ++ cap.toList).toArray := by apply Array.ext'; simp
    rw [eargs]
    refine hcall.mono ?_
    rintro e w' ⟨v, r, rfl, rfl, hext, hv⟩
    simp only [hd]
    have hrel' := hrel.ext hext (I' := I) (fun _ h => h) (fun _ h => .inl h)
    exact ⟨_, ρ, I, h, hrel'.put (by rwa [Nat.blt_eq] at hN) ⟨fun _ => Sc.rel r 0 _ v (scB_spec _ hs) hv, by simp⟩, Chg.refl hext d _⟩
end

section
variable {G : Pg2} {N : Nat} {Γ : Fr} {st : PSt} {K : Exit → PSt → Prop} {K' : PSt → Prop} {ops : Array Oper} {o : Oper} {rest : List Oper} {d : Nat}
/-- calls whose arguments say what the contract asks -/
theorem pop_callp {f : FuncId} {x : Operand} {args : Array Operand} {tys : Array TypeId} {c : Nat → PV} {qs : List PV} {X : PV} (hg : o.guard = none) (hd : o.dst = some d) (hN : Nat.blt d N = true) (ho : o.op = .call ⟨.value x, args, tys⟩) (hx : st.ev x = .clo f 0 c) (hc : PureC G.P f qs (fun r => r = X)) (hq : PEqL (args.toList.map st.ev) qs) (hcl : clBL qs = true) (hs : scB X = true)
    (h : POps G.toPg N Γ ops rest (st.put d X) K) : POps G.toPg N Γ ops (o :: rest) st K :=
  pop_call [] hg hd hN ho hx hc (hq.arel hcl) (fun r hr => by subst hr; exact ⟨scB_spec _ hs, h⟩)
theorem pst_callp {f : FuncId} {x : Operand} {args : Array Operand} {tys : Array TypeId} {c : Nat → PV} {qs : List PV} {X : PV} (hg : o.guard = none) (hd : o.dst = some d) (hN : Nat.blt d N = true) (ho : o.op = .call ⟨.value x, args, tys⟩) (hx : st.ev x = .clo f 0 c) (hc : PureC G.P f qs (fun r => r = X)) (hq : PEqL (args.toList.map st.ev) qs) (hcl : clBL qs = true) (hs : scB X = true)
    (h : K' (st.put d X)) : PStep G N Γ ops o st [] true K' :=
  pst_call [] hg hd hN ho hx hc (hq.arel hcl) (fun r hr => by subst hr; exact ⟨scB_spec _ hs, h⟩)
theorem peq_vsl {n n' sz : Nat} {f g : Nat → Nat → PV} (hn : n = n') (hf : ∀ i, i < n → ∀ j, j < sz → f i j = g i j) : PEq (.vsl n sz f) (.vsl n' sz g) := by
  subst hn
  rintro k ρ I w v ⟨a, cap, h1, h2, h3⟩
  refine ⟨a, cap, h1, h2, h3.imp id ?_⟩
  rintro ⟨b, o, e, hb, h4⟩
  refine ⟨b, o, e, hb, fun i hi j hj => ?_⟩
  obtain ⟨u, g1, g2, g3⟩ := h4 i hi j hj
  rw [hf i hi j hj] at g3
  exact ⟨u, g1, g2, g3⟩
/-- a call with rows in a region that draws -/
theorem pst_rows {f : FuncId} {x : Operand} {args : Array Operand} {tys : Array TypeId} {n : Nat} {c : Nat → PV} {rows : List Row} {qs : List PV} {post : PV → List Row → Prop} (sel : List Nat) (hg : o.guard = none) (hdst : o.dst = some d) (hN : Nat.blt d N = true)
    (ho : o.op = .call ⟨.value x, args, tys⟩) (hx : st.ev x = .clo f n c) (hd : nodupB sel = true) (hs : SelOk st.mem sel sel rows) (hc : RowsC G.P f rows qs post) (ha : PEqL ((args.toList.map st.ev ++ capL n c 0).map (PV.ren (inv sel 0))) qs)
    (h : ∀ r rows', post r rows' → ∃ m r', putK (tau sel (lenK st.mem 0)) sel rows' st.mem some = some m ∧ force (r.ren (tau sel (lenK st.mem 0))) (fun p => some (p, True)) = some (r', True) ∧ K' (PSt.put ⟨st.tm, m⟩ d r')) : PStep G N Γ ops o st sel false K' := .mk fun ρ I a w hrel Q => by
  have hw : Region.wanted o (yielded ops a.tmps) = true := by simp [Region.wanted, hg]
  rw [if_pos hw]
  refine rows_core (G := G.toPg) sel hrel ho (hx ▸ ev_rel hrel x) hd hs hc ha ?_
  intro v r rows' ρ2 I' w' hpost hr hch hv
  obtain ⟨m, r', e1, e2, hk⟩ := h r rows' hpost
  rw [putK_eq, lenK_eq, Nat.zero_add] at e1
  rw [force_eq, lenK_eq, Nat.zero_add] at e2
  simp only [Option.some.injEq, Prod.mk.injEq, and_true] at e1 e2
  rw [e1] at hr hv hch
  rw [e2] at hv
  rw [hdst]
  exact ⟨_, ρ2, I', hk, hr.put (by rwa [Nat.blt_eq] at hN) hv, hch.size, hch.same, hch.loc, hch.imm, hch.live, hch.own⟩
end
/-- a row of numbers -/
def iRow (n : Nat) (g : Nat → Int) : Row := ⟨.own, false, n, 1, tI g⟩
theorem i_cl (n : Nat) (g : Nat → Int) : rowCl (iRow n g) := fun _ _ _ _ => trivial
theorem i_eq {τ : Nat → Option Nat} {n n' : Nat} {f : Nat → Nat → PV} {g : Nat → Int} (hn : n' ≤ n) (h : ∀ a, a < n' → f a 0 = vi (g a)) : RowEq (Row.ren τ ⟨.own, false, n, 1, f⟩) (iRow n' g) := by
  refine ⟨rfl, rfl, hn, fun i hi j hj => ?_⟩
  have hj0 : j = 0 := by simp [iRow] at hj; exact hj
  subst hj0
  show PEq ((f i 0).ren τ) (vi (g i))
  rw [h i hi]; exact PEq.refl _
def upd (g : Nat → Int) (i : Nat) (x : Int) (a : Nat) : Int := if a = i then x else g a
theorem upd_eq (g : Nat → Int) (i : Nat) (x : Int) (a b : Nat) (hb : b = 0) : updR (tI g) i [vi x] a b = tI (upd g i x) a b := by
  subst hb
  unfold updR tI upd
  by_cases e : a = i
  · subst e; simp [nthP]
  · have : Nat.beq a i = false := by cases hb : Nat.beq a i; rfl; exact absurd (Nat.eq_of_beq_eq_true hb) e
    rw [this, if_neg e]; rfl
def snocF (m : Nat) (g : Nat → Int) (y : Int) (a : Nat) : Int := if a < m then g a else y
theorem app_eq {τ : Nat → Option Nat} {m : Nat} {g : Nat → Int} {y : Int} : RowEq (Row.ren τ ⟨.own, false, m + 1, 1, appF m (fun x => tI g (0 + x)) (fun x b => nthP [vi y] ((0 + x) * 1 + b))⟩) (iRow (m + 1) (snocF m g y)) := by
  refine i_eq (Nat.le_refl _) fun a ha => ?_
  unfold snocF
  by_cases e : a < m
  · rw [appF_lt _ _ e, if_pos e, Nat.zero_add]; rfl
  · rw [appF_ge _ _ (by omega), if_neg e]
    have : a - m = 0 := by omega
    rw [this]; rfl
theorem app1_eq {τ : Nat → Option Nat} {g : Nat → Int} {y : Int} : RowEq (Row.ren τ ⟨.own, false, 1, 1, fun x b => nthP [vi y] ((0 + x) * 1 + b)⟩) (iRow 1 (snocF 0 g y)) := by
  refine i_eq (Nat.le_refl _) fun a ha => ?_
  have : a = 0 := by omega
  subst this; rfl
/-- a row of indices -/
def lN (l : List Nat) (a : Nat) : Int := ((l.getD a 0 : Nat) : Int)
theorem lN_set (l : List Nat) (i x : Nat) (h : i < l.length) (a : Nat) : upd (lN l) i x a = lN (l.set i x) a := by
  unfold upd lN
  by_cases e : a = i
  · subst e; simp [List.getD_eq_getElem?_getD, h]
  · simp [List.getD_eq_getElem?_getD, List.getElem?_set, Ne.symm e, e]
end Go.Proofs.YtcghpepighboaaaDoor
