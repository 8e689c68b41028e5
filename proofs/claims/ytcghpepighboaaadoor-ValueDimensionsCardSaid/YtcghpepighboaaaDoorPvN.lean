/- Freezing of rows; calls of closures that read frozen memory; rows of numbers. -/
import Derived.Test.YtcghpepighboaaaDoorPvLib2
import Derived.Laws.Cover3
set_option linter.unusedSimpArgs false
set_option linter.unusedVariables false
set_option maxRecDepth 100000
namespace Go.Proofs.YtcghpepighboaaaDoor
theorem argPtr {mem : List Row} {L : List Nat} {l n sz i j : Nat} {r : Row} {f : Nat → Nat → PV} (hr : rowAt mem l = some r) (hs : r.s.live) (hL : l ∈ L) (hn : n ≤ r.n) (hsz : sz = r.sz) (hc : ∀ a, a < n → ∀ b, b < sz → ArgOk mem L (r.f a b) (f a b)) : ArgOk mem L (.ptr l i j) (.vptr n sz f i j) := by
  rintro ρ I w v hm ⟨hl, rfl⟩
  rw [rowAt_get] at hr
  obtain ⟨h1, cs, T, hc1, hc2⟩ := hm.row l r hr hs
  refine ⟨(ρ l).b, (ρ l).o, by rw [h1, hsz], .inr ⟨l, r, hL, hr, hs, rfl⟩, fun a ha b hb => ?_⟩
  obtain ⟨u, g1, g2, g3⟩ := hc2 a (by omega) b (by omega)
  exact ⟨u, by simp only [World.cell?, hc1, hsz]; exact g1, g2, hc a ha b hb ρ I w u hm g3⟩
theorem argLsl' {mem : List Row} {L : List Nat} {l i n : Nat} {r : Row} {f : Nat → Nat → PV} (hr : rowAt mem l = some r) (hs : r.s.live) (hL : l ∈ L) (hn : i + n ≤ r.n) (hc : ∀ a, a < n → ∀ b, b < r.sz → ArgOk mem L (r.f (i + a) b) (f a b)) : ArgOk mem L (.lsl l i n) (.vsl n r.sz f) := by
  rintro ρ I w v hm ⟨hl, h⟩
  rw [rowAt_get] at hr
  rcases h with ⟨rfl, ad, rfl⟩ | ⟨cap, h1, rfl, h2⟩
  · exact ⟨ad, 0, rfl, Nat.le_refl _, .inl rfl⟩
  · refine ⟨_, cap, rfl, h1, .inr ⟨(ρ l).b, (ρ l).o + i * (ρ l).sz, rfl, .inr ⟨l, r, hL, hr, hs, rfl⟩, fun a ha b hb => ?_⟩⟩
    obtain ⟨hsz, cs, T, hc1, hc2⟩ := hm.row l r hr hs
    obtain ⟨u, g1, g2, g3⟩ := hc2 (i + a) (by omega) b hb
    refine ⟨u, ?_, g2, hc a ha b hb ρ I w u hm g3⟩
    have : (ρ l).o + i * (ρ l).sz + a * r.sz + b = (ρ l).o + (i + a) * r.sz + b := by rw [hsz, Nat.add_mul]; omega
    simp only [World.cell?, hc1, this]
    exact g1
theorem argClo {mem : List Row} {L : List Nat} {f : FuncId} {n : Nat} {c c' : Nat → PV} (h : ∀ i, i < n → ArgOk mem L (c i) (c' i)) : ArgOk mem L (.clo f n c) (.clo f n c') := by
  rintro ρ I w v hm ⟨vs, h1, h2, h3⟩
  exact ⟨vs, h1, h2, fun i hi => h i hi ρ I w _ hm (h3 i hi)⟩
theorem argClo1 {mem : List Row} {L : List Nat} {f : FuncId} {c c' : Nat → PV} (h : ArgOk mem L (c 0) (c' 0)) : ArgOk mem L (.clo f 1 c) (.clo f 1 c') := argClo fun i hi => by
  obtain rfl : i = 0 := by omega
  exact h
def TmF (st : PSt) (L : List Nat) : List (Nat × PV) → Prop
  | [] => True
  | (t, q) :: r => (st.get t = q ∨ ArgOk st.mem L (st.get t) q) ∧ TmF st L r
section
variable {N : Nat} {Γ : Fr} {st : PSt}
theorem tmF_slot {L : List Nat} {ρ : Nat → Loc} {I : Nat → Prop} {a : Act} {w : World} (hm : MRel ρ I w st.mem) (hs : ∀ t, VRel st.mem.length ρ I w (st.get t) (a.tmps.getD t undef)) (hs' : ∀ t, VRel st.mem.length ρ (ASet ρ I st.mem L) w (st.get t) (a.tmps.getD t undef)) : ∀ (tm : List (Nat × PV)), TmF st L tm → ∀ t, VRel st.mem.length ρ (ASet ρ I st.mem L) w (look t tm) (a.tmps.getD t undef)
  | [], _, t => trivial
  | (s, q) :: r, h, t => by
    simp only [look]
    cases hb : Nat.beq t s
    · exact tmF_slot hm hs hs' r h.2 t
    · rw [Nat.eq_of_beq_eq_true hb]
      rcases h.1 with e | e
      · show VRel _ _ _ _ q _
        rw [← e]; exact hs' s
      · exact (e ρ I w _ hm (hs s)).of0
theorem can_frz (L : List Nat) {tm : List (Nat × PV)} {m : List Row} (hL : ∀ l, l ∈ L → Γ.k0 ≤ l) (hm0 : frzK L st.mem 0 some = some m) (ht : TmF st L tm) : Can N Γ st ⟨tm, m⟩ := fun ρ I a w h => by
  have hm : frzL L 0 st.mem = m := by rw [frzK_eq] at hm0; simpa using hm0
  subst hm
  have hf := h.freeze L hL
  refine ⟨ρ, _, hf.fr, hf.defers, hf.size, fun t => ?_⟩
  have hs' := hf.slot
  simp only [frzL_length] at hs' ⊢
  exact tmF_slot h.fr.m h.slot hs' tm ht t
end
section
variable {G : Pg2} {N : Nat} {Γ : Fr} {st : PSt} {K' : PSt → Prop} {K : Exit → PSt → Prop} {ops : Array Oper} {o : Oper} {rest : List Oper} {d : Nat}
theorem PEqL.arel {mem : List Row} {L : List Nat} : ∀ {ps qs : List PV}, PEqL ps qs → clBL qs = true → ArgsOk mem L ps qs
  | [], [], _, _ => trivial
  | p :: ps, q :: qs, h, hc => by
    simp only [clBL, Bool.and_eq_true] at hc
    exact ⟨fun ρ I w v hm hv => argCl (mem := mem) (clB_spec q hc.1) ρ I w v hm (h.1 _ _ _ _ _ hv), PEqL.arel h.2 hc.2⟩
  | [], _ :: _, h, _ => h.elim
  | _ :: _, [], h, _ => h.elim
theorem strL_rel {ρ : Nat → Loc} {I : Nat → Prop} {a : Act} {w : World} (h : Rel N Γ st ρ I a w) : ∀ (l : List Operand), strPL (l.map st.ev) → ∀ i, i < ((l.map st.ev).map str).length → VRel st.mem.length ρ I w (nthP ((l.map st.ev).map str) i) ((l.map a.eval).getD i undef)
  | [], _, i, hi => by simp at hi
  | x :: l, hp, 0, _ => by
    simp only [List.map_cons, strPL] at hp
    exact (str_rel (ev_rel h x) hp).1
  | x :: l, hp, i + 1, hi => by
    simp only [List.map_cons, strPL] at hp
    have := strL_rel h l (str_rel (ev_rel h x) hp).2 i (by simpa using hi)
    simpa [nthP] using this
theorem pst_clo {j : Nat} {want g : Bool} {f : FuncId} {x : Operand} {args : Array Operand} {tys : Array TypeId} {n : Nat} {c : Nat → PV} {qs : List PV} {X : PV} (hg : o.guard = some (j, want)) (hd : o.dst = some d) (hN : Nat.blt d N = true) (hgv : gval ops st j want = some g) (ho : o.op = .call ⟨.value x, args, tys⟩)
    (hx : str (st.ev x) = .clo f n c) (hxp : g = true → strP (st.ev x) True) (hc : g = true → PureC G.P f qs (fun r => r = X)) (hp : g = true → strPL (args.toList.map st.ev)) (hq : g = true → PEqL ((args.toList.map st.ev).map str ++ capL n c 0) qs) (hcl : clBL qs = true) (hs : scB X = true)
    (h : K' (st.put d (.opt g X))) : PStep G N Γ ops o st [] true K' := .mk fun ρ I a w hrel Q => by
  have hw := gval_sound hrel hg hgv
  cases g
  · rw [hw]
    simp only [Bool.false_eq_true, if_false, hd]
    exact ⟨_, ρ, I, h, hrel.put (by rwa [Nat.blt_eq] at hN) ⟨by simp, fun _ => rfl⟩, Chg.refl (Ext.refl w) d _⟩
  · rw [hw]
    simp only [if_true]
    have hc := hc rfl
    have hx0 := (str_rel (ev_rel hrel x) (hxp rfl)).1
    rw [hx] at hx0
    obtain ⟨cap, e1, e2, e3⟩ := hx0
    simp only [Oper.wp, call_run hc.1 ho e1, Oper.upon_enter]
    have hA := args_sound hrel.fr.m (L := []) _ qs (args.toList.map a.eval ++ cap.toList) ((hq rfl).arel hcl) (fun i hi => by
      have h1 := strL_rel hrel args.toList (hp rfl)
      rw [nthP_append]
      split
      · rename_i hlt
        have := h1 i hlt
        have hlt2 : i < (args.toList.map a.eval).length := by simpa using hlt
        rw [List.getD_eq_getElem?_getD, List.getElem?_append_left hlt2, ← List.getD_eq_getElem?_getD]
        exact this
      · rename_i hge
        simp only [List.length_append, capL_length, List.length_map] at hi hge ⊢
        rw [capL_nth _ _ _ _ (by omega), Nat.zero_add]
        have hge2 : (args.toList.map a.eval).length ≤ i := by rw [List.length_map]; omega
        rw [List.getD_eq_getElem?_getD, List.getElem?_append_right hge2]
        have := e3 (i - args.toList.length) (by omega)
        simpa [Array.getD_eq_getD_getElem?, List.length_map] using this) (by simp [capL_length, e2])
    have hcall := hc.2 ρ (ASet ρ I st.mem []) w (args.toList.map a.eval ++ cap.toList) (fun b hb => by
      rcases hb with hb | ⟨l, r, _, hr, hs, rfl⟩
      · exact hrel.fr.m.lt b hb
      · exact hrel.lt hr hs) (hrel.fr.gl.sub fun b hb => .inl hb) hA
    have eargs : (args.map a.eval ++ cap) = (args.toList.map a.eval ++ cap.toList).toArray := by apply Array.ext'; simp
    rw [eargs]
    refine hcall.mono ?_
    rintro e w' ⟨v, r, rfl, rfl, hext, hv⟩
    simp only [hd]
    have hrel' := hrel.ext hext (I' := I) (fun _ h => h) (fun _ h => .inl h)
    exact ⟨_, ρ, I, h, hrel'.put (by rwa [Nat.blt_eq] at hN) ⟨fun _ => Sc.rel r 0 _ v (scB_spec _ hs) hv, by simp⟩, Chg.refl hext d _⟩
end
section
variable {G : Pg2} {N : Nat} {Γ : Fr} {st : PSt} {K : Exit → PSt → Prop} {K' : PSt → Prop} {ops : Array Oper} {o : Oper} {rest : List Oper} {d : Nat}
theorem pop_callp {f : FuncId} {x : Operand} {args : Array Operand} {tys : Array TypeId} {c : Nat → PV} {qs : List PV} {X : PV} (hg : o.guard = none) (hd : o.dst = some d) (hN : Nat.blt d N = true) (ho : o.op = .call ⟨.value x, args, tys⟩) (hx : st.ev x = .clo f 0 c) (hc : PureC G.P f qs (fun r => r = X)) (hq : PEqL (args.toList.map st.ev) qs) (hcl : clBL qs = true) (hs : scB X = true)
    (h : POps G.toPg N Γ ops rest (st.put d X) K) : POps G.toPg N Γ ops (o :: rest) st K :=
  pop_call [] hg hd hN ho hx hc (hq.arel hcl) (fun r hr => by subst hr; exact ⟨scB_spec _ hs, h⟩)
theorem pst_callp {f : FuncId} {x : Operand} {args : Array Operand} {tys : Array TypeId} {c : Nat → PV} {qs : List PV} {X : PV} (hg : o.guard = none) (hd : o.dst = some d) (hN : Nat.blt d N = true) (ho : o.op = .call ⟨.value x, args, tys⟩) (hx : st.ev x = .clo f 0 c) (hc : PureC G.P f qs (fun r => r = X)) (hq : PEqL (args.toList.map st.ev) qs) (hcl : clBL qs = true) (hs : scB X = true)
    (h : K' (st.put d X)) : PStep G N Γ ops o st [] true K' :=
  pst_call [] hg hd hN ho hx hc (hq.arel hcl) (fun r hr => by subst hr; exact ⟨scB_spec _ hs, h⟩)
theorem peq_vsl {n n' sz : Nat} {f g : Nat → Nat → PV} (hn : n = n') (hf : ∀ i, i < n → ∀ j, j < sz → f i j = g i j) : PEq (.vsl n sz f) (.vsl n' sz g) := by
  subst hn
  rintro k ρ I w v ⟨a, cap, h1, h2, h3⟩
  refine ⟨a, cap, h1, h2, h3.imp id ?_⟩
  rintro ⟨b, o, e, hb, h4⟩
  refine ⟨b, o, e, hb, fun i hi j hj => ?_⟩
  obtain ⟨u, g1, g2, g3⟩ := h4 i hi j hj
  rw [hf i hi j hj] at g3
  exact ⟨u, g1, g2, g3⟩
theorem pst_rows {f : FuncId} {x : Operand} {args : Array Operand} {tys : Array TypeId} {n : Nat} {c : Nat → PV} {rows : List Row} {qs : List PV} {post : PV → List Row → Prop} (sel : List Nat) (hg : o.guard = none) (hdst : o.dst = some d) (hN : Nat.blt d N = true)
    (ho : o.op = .call ⟨.value x, args, tys⟩) (hx : st.ev x = .clo f n c) (hd : nodupB sel = true) (hs : SelOk st.mem sel sel rows) (hc : RowsC G.P f rows qs post) (ha : PEqL ((args.toList.map st.ev ++ capL n c 0).map (PV.ren (inv sel 0))) qs)
    (h : ∀ r rows', post r rows' → ∃ m r', putK (tau sel (lenK st.mem 0)) sel rows' st.mem some = some m ∧ force (r.ren (tau sel (lenK st.mem 0))) (fun p => some (p, True)) = some (r', True) ∧ K' (PSt.put ⟨st.tm, m⟩ d r')) : PStep G N Γ ops o st sel false K' := .mk fun ρ I a w hrel Q => by
  have hw : Region.wanted o (yielded ops a.tmps) = true := by simp [Region.wanted, hg]
  rw [if_pos hw]
  refine rows_core (G := G.toPg) sel hrel ho (hx ▸ ev_rel hrel x) hd hs hc ha ?_
  intro v r rows' ρ2 I' w' hpost hr hch hv
  obtain ⟨m, r', e1, e2, hk⟩ := h r rows' hpost
  rw [putK_eq, lenK_eq, Nat.zero_add] at e1
  rw [force_eq, lenK_eq, Nat.zero_add] at e2
  simp only [Option.some.injEq, Prod.mk.injEq, and_true] at e1 e2
  rw [e1] at hr hv hch
  rw [e2] at hv
  rw [hdst]
  exact ⟨_, ρ2, I', hk, hr.put (by rwa [Nat.blt_eq] at hN) hv, hch.size, hch.same, hch.loc, hch.imm, hch.live, hch.own⟩
end
def iRow (n : Nat) (g : Nat → Int) : Row := ⟨.own, false, n, 1, tI g⟩
theorem i_cl (n : Nat) (g : Nat → Int) : rowCl (iRow n g) := fun _ _ _ _ => trivial
theorem i_eq {τ : Nat → Option Nat} {n n' : Nat} {f : Nat → Nat → PV} {g : Nat → Int} (hn : n' ≤ n) (h : ∀ a, a < n' → f a 0 = vi (g a)) : RowEq (Row.ren τ ⟨.own, false, n, 1, f⟩) (iRow n' g) := by
  refine ⟨rfl, rfl, hn, fun i hi j hj => ?_⟩
  have hj0 : j = 0 := by simp [iRow] at hj; exact hj
  subst hj0
  show PEq ((f i 0).ren τ) (vi (g i))
  rw [h i hi]; exact PEq.refl _
def upd (g : Nat → Int) (i : Nat) (x : Int) (a : Nat) : Int := if a = i then x else g a
theorem upd_eq (g : Nat → Int) (i : Nat) (x : Int) (a b : Nat) (hb : b = 0) : updR (tI g) i [vi x] a b = tI (upd g i x) a b := by
  subst hb
  unfold updR tI upd
  by_cases e : a = i
  · subst e; simp [nthP]
  · have : Nat.beq a i = false := by cases hb : Nat.beq a i; rfl; exact absurd (Nat.eq_of_beq_eq_true hb) e
    rw [this, if_neg e]; rfl
def snocF (m : Nat) (g : Nat → Int) (y : Int) (a : Nat) : Int := if a < m then g a else y
theorem app_eq {τ : Nat → Option Nat} {m : Nat} {g : Nat → Int} {y : Int} : RowEq (Row.ren τ ⟨.own, false, m + 1, 1, appF m (fun x => tI g (0 + x)) (fun x b => nthP [vi y] ((0 + x) * 1 + b))⟩) (iRow (m + 1) (snocF m g y)) := by
  refine i_eq (Nat.le_refl _) fun a ha => ?_
  unfold snocF
  by_cases e : a < m
  · rw [appF_lt _ _ e, if_pos e, Nat.zero_add]; rfl
  · rw [appF_ge _ _ (by omega), if_neg e]
    have : a - m = 0 := by omega
    rw [this]; rfl
theorem app1_eq {τ : Nat → Option Nat} {g : Nat → Int} {y : Int} : RowEq (Row.ren τ ⟨.own, false, 1, 1, fun x b => nthP [vi y] ((0 + x) * 1 + b)⟩) (iRow 1 (snocF 0 g y)) := by
  refine i_eq (Nat.le_refl _) fun a ha => ?_
  have : a = 0 := by omega
  subst this; rfl
def lN (l : List Nat) (a : Nat) : Int := ((l.getD a 0 : Nat) : Int)
theorem lN_set (l : List Nat) (i x : Nat) (h : i < l.length) (a : Nat) : upd (lN l) i x a = lN (l.set i x) a := by
  unfold upd lN
  by_cases e : a = i
  · subst e; simp [List.getD_eq_getElem?_getD, h]
  · simp [List.getD_eq_getElem?_getD, List.getElem?_set, Ne.symm e, e]
open Go.RowKit
def slP : Nat → Nat → PV
  | 0, _ => .val (.slice none 0 0)
  | k + 1, l => .lsl l 0 (k + 1)
def sOf : Nat → RS
  | 0 => .virt
  | _ + 1 => .own
def tF {α : Type} (c : α → List PV) (g : Nat → α) : Nat → Nat → PV := fun i => nthP (c (g i))
def vRow {α : Type} (c : α → List PV) (sz n : Nat) (g : Nat → α) : Row := ⟨sOf n, false, n, sz, tF c g⟩
def oRow {α : Type} (c : α → List PV) (sz n : Nat) (g : Nat → α) : Row := ⟨.own, false, n, sz, tF c g⟩
def snocA {α : Type} (m : Nat) (g : Nat → α) (y : α) (a : Nat) : α := if a < m then g a else y
def updA {α : Type} (g : Nat → α) (i : Nat) (y : α) (a : Nat) : α := if a = i then y else g a
abbrev c1 (x : Int) : List PV := [vi x]
def SelV (mem : List Row) (sel0 : List Nat) : List Nat → List Row → Prop
  | [], [] => True
  | l :: s, r :: rs => (∃ r0, rowAt mem l = some r0 ∧ RowEq (r0.ren (inv sel0 0)) r) ∧ SelV mem sel0 s rs
  | _, _ => False
theorem SelV.nil {mem : List Row} {s0 : List Nat} : SelV mem s0 [] [] := trivial
theorem SelV.cons {mem : List Row} {s0 : List Nat} {l : Nat} {s : List Nat} {r0 r : Row} {rs : List Row} (h1 : rowAt mem l = some r0) (h3 : RowEq (r0.ren (inv s0 0)) r) (h : SelV mem s0 s rs) : SelV mem s0 (l :: s) (r :: rs) := ⟨⟨r0, h1, h3⟩, h⟩
theorem SelV.get {mem : List Row} {sel0 : List Nat} : ∀ (s : List Nat) (rs : List Row), SelV mem sel0 s rs → s.length = rs.length ∧ ∀ (i : Nat) (r : Row), rs[i]? = some r → ∃ (l : Nat) (r0 : Row), s[i]? = some l ∧ mem[l]? = some r0 ∧ RowEq (r0.ren (inv sel0 0)) r
  | [], [], _ => ⟨rfl, fun i r h => by simp at h⟩
  | l :: s, r :: rs, h => by
    obtain ⟨h1, h2⟩ := SelV.get s rs h.2
    refine ⟨by simp [h1], fun i r' hi => ?_⟩
    cases i with
    | zero =>
      simp only [List.getElem?_cons_zero, Option.some.injEq] at hi
      subst hi
      obtain ⟨r0, e1, e3⟩ := h.1
      rw [rowAt_get] at e1
      exact ⟨l, r0, by simp, e1, e3⟩
    | succ i =>
      obtain ⟨l', r0, e⟩ := h2 i r' (by simpa using hi)
      exact ⟨l', r0, by simpa using e.1, e.2⟩
  | [], _ :: _, h => h.elim
  | _ :: _, [], h => h.elim
section
variable {N : Nat} {Γ : Fr} {st : PSt} {ρ : Nat → Loc} {I : Nat → Prop} {a : Act} {w : World}
theorem MRel.selv (hm : MRel ρ I w st.mem) {sel : List Nat} {rows : List Row} (hs : SelV st.mem sel sel rows) (hd : sel.Nodup) : MRel (sub sel ρ) I w rows := by
  obtain ⟨hlen, hget⟩ := SelV.get sel rows hs
  have ne : ∀ (i j l l' : Nat), i ≠ j → sel[i]? = some l → sel[j]? = some l' → l ≠ l' := fun i j l l' hne h1 h2 e => by
    subst e
    have b1 := getLt h1
    have b2 := getLt h2
    exact hne ((List.getElem?_inj b1 hd).1 (h1.trans h2.symm))
  refine ⟨fun i r hi hl => ?_, fun i j r r' hne hi hj h1 h2 => ?_, fun i r hi ho => ?_, fun i r hi ho => ?_, hm.lt, fun i r hi hmp => ?_, fun i j r r' hne hi hj h1 h2 => ?_⟩
  · obtain ⟨l, r0, e1, e2, q1, q2, q3, q4⟩ := hget i r hi
    have q1 : r.s = r0.s := q1
    obtain ⟨h1, cs, T, h2, h3⟩ := hm.row l r0 e2 (by rw [← q1]; exact hl)
    rw [sub_get e1]
    refine ⟨h1.trans q2.symm, cs, T, h2, fun x hx y hy => ?_⟩
    have hy0 : y < r0.sz := by rw [q2] at hy; exact hy
    obtain ⟨u, g1, g2, g3⟩ := h3 x (Nat.lt_of_lt_of_le hx q3) y hy0
    refine ⟨u, by rw [q2]; exact g1, g2, q4 x hx y hy _ _ _ _ _ (VRel.ren (inv_ok hlen) _ _ g3)⟩
  · obtain ⟨l, r0, e1, e2, q1, _⟩ := hget i r hi
    obtain ⟨l', r0', e1', e2', q1', _⟩ := hget j r' hj
    have q1 : r.s = r0.s := q1
    have q1' : r'.s = r0'.s := q1'
    rw [sub_get e1, sub_get e1']
    exact hm.apart l l' r0 r0' (ne i j l l' hne e1 e1') e2 e2' (by rw [← q1]; exact h1) (by rw [← q1']; exact h2)
  · obtain ⟨l, r0, e1, e2, q1, _⟩ := hget i r hi
    rw [sub_get e1]
    exact hm.mine l r0 e2 (by rw [q1] at ho; exact ho)
  · obtain ⟨l, r0, e1, e2, q1, _⟩ := hget i r hi
    rw [sub_get e1]
    exact hm.imm l r0 e2 (by rw [q1] at ho; exact ho)
  · obtain ⟨l, r0, e1, e2, q1, q2, q3, q4⟩ := hget i r hi
    have q1 : r.s = r0.s := q1
    obtain ⟨g1, g2⟩ := hm.side l r0 e2 (by rw [← q1]; exact hmp)
    rw [sub_get e1]
    exact ⟨g1, g2.up q3 q2 (.refl _) fun x hx y hy v hv => q4 x hx y hy _ _ _ _ _ (VRel.ren (inv_ok hlen) _ _ hv)⟩
  · obtain ⟨l, r0, e1, e2, q1, _⟩ := hget i r hi
    obtain ⟨l', r0', e1', e2', q1', _⟩ := hget j r' hj
    have q1 : r.s = r0.s := q1
    have q1' : r'.s = r0'.s := q1'
    rw [sub_get e1, sub_get e1']
    exact hm.sap l l' r0 r0' (ne i j l l' hne e1 e1') e2 e2' (by rw [← q1]; exact h1) (by rw [← q1']; exact h2)
theorem can_rowsv (sel : List Nat) {tm : List (Nat × PV)} {rows : List Row} (hk : Γ.k0 ≤ sel.length ∧ ∀ i, i < Γ.k0 → sel[i]? = some i) (hd : nodupB sel = true) (hs : SelV st.mem sel sel rows) (ht : TmOk st sel tm) : Can N Γ st ⟨tm, rows⟩ := fun ρ I a w h => by
  have hnd := nodupB_ok sel hd
  obtain ⟨hlen, hget⟩ := SelV.get sel rows hs
  have slot : ∀ (tm : List (Nat × PV)), TmOk st sel tm → ∀ t, VRel rows.length (sub sel ρ) I w (look t tm) (a.tmps.getD t undef) := by
    intro tm
    induction tm with
    | nil => intro _ t; trivial
    | cons x tm ih =>
      obtain ⟨s, p⟩ := x
      intro hx t
      simp only [look]
      cases hb : Nat.beq t s
      · exact ih hx.2 t
      · obtain rfl : t = s := Nat.eq_of_beq_eq_true hb
        exact hx.1 _ _ _ _ _ (VRel.ren (inv_ok hlen) _ _ (h.slot t))
  refine ⟨sub sel ρ, I, ⟨h.fr.m.selv hs hnd, h.fr.os, h.fr.tape, h.fr.output, h.fr.size, h.fr.block, h.fr.shape, h.fr.old, h.fr.new, fun i r hi ho hlt => ?_, fun i r hi ho hki => ?_, by simp only; omega, fun l hl => ?_, fun i r hi ho hki => ?_, h.fr.gl⟩, h.defers, h.size, slot tm ht⟩
  · obtain ⟨l, r0, e1, e2, e4, _⟩ := hget i r hi
    rw [sub_get e1] at hlt ⊢
    exact h.fr.own l r0 e2 (by rw [e4] at ho; exact ho) hlt
  · obtain ⟨l, r0, e1, e2, e4, _⟩ := hget i r hi
    rw [sub_get e1]
    refine h.fr.fresh l r0 e2 (by rw [e4] at ho; exact ho) ?_
    by_cases hlt : l < Γ.k0
    · have := (List.getElem?_inj (getLt e1) hnd).1 (e1.trans (hk.2 l hlt).symm)
      omega
    · omega
  · rw [sub_get (hk.2 l hl)]; exact h.fr.ρ0 l hl
  · obtain ⟨l, r0, e1, e2, e4, _⟩ := hget i r hi
    rw [sub_get e1]
    have e4 : r.s = r0.s := e4
    refine h.fr.sfresh l r0 e2 (by rw [e4] at ho; exact ho) ?_
    by_cases hlt : l < Γ.k0
    · have := (List.getElem?_inj (getLt e1) hnd).1 (e1.trans (hk.2 l hlt).symm)
      omega
    · omega
theorem can_virt (rv : Row) (hv : rv.s = .virt) : Can N Γ st ⟨st.tm, st.mem ++ [rv]⟩ := fun ρ I a w h => by
  have split : ∀ (l : Nat) (r : Row), (st.mem ++ [rv])[l]? = some r → r.s ≠ .virt → st.mem[l]? = some r := fun l r hl hne => by
    by_cases hlt : l < st.mem.length
    · rw [List.getElem?_append_left hlt] at hl; exact hl
    · exfalso
      have h1 := lt_get hl
      simp at h1
      have : l = st.mem.length := by omega
      subst this
      simp at hl
      rw [← hl] at hne
      exact hne hv
  have lv : ∀ {r : Row}, r.s.live → r.s ≠ .virt := fun hr he => by rw [he] at hr; exact hr
  have ow : ∀ {r : Row}, r.s.isOwn → r.s ≠ .virt := fun hr he => by rw [he] at hr; exact hr
  have up : ∀ {p : PV} {v : Value}, VRel st.mem.length ρ I w p v → VRel (st.mem ++ [rv]).length ρ I w p v := fun hp => hp.up (by simp) (fun _ _ => rfl) (fun _ h => h) (Tr.refl _ _)
  refine ⟨ρ, I, ⟨⟨fun l r hl hs => ?_, fun l l' r r' hne hl hl' hs hs' => ?_, fun l r hl ho => ?_, fun l r hl hi => ?_, h.fr.m.lt, fun l r hl hm => ?_, fun l l' r r' hne hl hl' hs hs' => ?_⟩, h.fr.os, h.fr.tape, h.fr.output, h.fr.size, h.fr.block, h.fr.shape, h.fr.old, h.fr.new, fun l r hl ho => ?_, fun l r hl ho => ?_, ?_, h.fr.ρ0, fun l r hl hm => ?_, h.fr.gl⟩, h.defers, h.size, fun t => up (h.slot t)⟩
  · obtain ⟨h1, cs, T, h2, h3⟩ := h.fr.m.row l r (split l r hl (lv hs)) hs
    exact ⟨h1, cs, T, h2, fun i hi j hj => by obtain ⟨u, g1, g2, g3⟩ := h3 i hi j hj; exact ⟨u, g1, g2, up g3⟩⟩
  · exact h.fr.m.apart l l' r r' hne (split l r hl (lv hs)) (split l' r' hl' (lv hs')) hs hs'
  · exact h.fr.m.mine l r (split l r hl (ow ho)) ho
  · exact h.fr.m.imm l r (split l r hl (by rw [hi]; simp)) hi
  · obtain ⟨g1, g2⟩ := h.fr.m.side l r (split l r hl (by rw [hm]; simp)) hm
    exact ⟨g1, g2.up (Nat.le_refl _) rfl (.refl _) fun i hi j hj v hv => up hv⟩
  · exact h.fr.m.sap l l' r r' hne (split l r hl (by rw [hs]; simp)) (split l' r' hl' (by rw [hs']; simp)) hs hs'
  · exact h.fr.own l r (split l r hl (ow ho)) ho
  · exact h.fr.fresh l r (split l r hl (ow ho)) ho
  · have := h.fr.k0; simp; omega
  · exact h.fr.sfresh l r (split l r hl (by rw [hm]; simp)) hm
end
def CellsCl {α : Type} (c : α → List PV) : Prop := ∀ x, ClL (c x)
theorem tF_cl {α : Type} {c : α → List PV} (hc : CellsCl c) (g : Nat → α) (i j : Nat) : Cl (tF c g i j) := clL_nth _ j (hc (g i))
theorem v_cl {α : Type} {c : α → List PV} (hc : CellsCl c) (sz n : Nat) (g : Nat → α) : rowCl (vRow c sz n g) := fun i _ j _ => tF_cl hc g i j
theorem o_cl {α : Type} {c : α → List PV} (hc : CellsCl c) (sz n : Nat) (g : Nat → α) : rowCl (oRow c sz n g) := fun i _ j _ => tF_cl hc g i j
theorem c1_cl : CellsCl c1 := fun _ => ⟨trivial, trivial⟩
theorem o_eq {α : Type} {c : α → List PV} (hc : CellsCl c) {τ : Nat → Option Nat} {sz n n' : Nat} {f : Nat → Nat → PV} {g : Nat → α} (hn : n' ≤ n) (h : ∀ a, a < n' → ∀ b, b < sz → f a b = nthP (c (g a)) b) : RowEq (Row.ren τ ⟨.own, false, n, sz, f⟩) (oRow c sz n' g) :=
  ⟨rfl, rfl, hn, fun i hi j hj => by
    show PEq ((f i j).ren τ) (nthP (c (g i)) j)
    rw [h i hi j hj]; exact PEq.cl _ (clL_nth _ j (hc (g i)))⟩
theorem vo_eq {α : Type} {c : α → List PV} {sz n : Nat} {g : Nat → α} (hn : 0 < n) : vRow c sz n g = oRow c sz n g := by
  cases n with
  | zero => omega
  | succ n => rfl
theorem app_o {α : Type} {c : α → List PV} (hc : CellsCl c) {τ : Nat → Option Nat} {sz m M : Nat} {g : Nat → α} {y : α} {L : List PV} (hL : L = c y) (hM : M = m + 1) : RowEq (Row.ren τ ⟨.own, false, M, sz, appF m (fun x => tF c g (0 + x)) (fun x b => nthP L ((0 + x) * sz + b))⟩) (oRow c sz (m + 1) (snocA m g y)) := by
  subst hL hM
  refine o_eq hc (Nat.le_refl _) fun a ha b hb => ?_
  unfold snocA
  by_cases e : a < m
  · rw [appF_lt _ _ e, if_pos e, Nat.zero_add]; rfl
  · obtain rfl : a = m := by omega
    rw [appF_ge _ _ (Nat.le_refl _), if_neg (by omega), Nat.sub_self, Nat.zero_add, Nat.zero_mul, Nat.zero_add]
theorem app_v {α : Type} {c : α → List PV} (hc : CellsCl c) {τ : Nat → Option Nat} {sz m M : Nat} {g : Nat → α} {y : α} {L : List PV} (hL : L = c y) (hM : M = m + 1) : RowEq (Row.ren τ ⟨.own, false, M, sz, appF m (fun x => tF c g (0 + x)) (fun x b => nthP L ((0 + x) * sz + b))⟩) (vRow c sz (m + 1) (snocA m g y)) := app_o hc hL hM
theorem app_0 {α : Type} {c : α → List PV} (hc : CellsCl c) {τ : Nat → Option Nat} {sz : Nat} {g : Nat → α} {y : α} {L : List PV} (hL : L = c y) : RowEq (Row.ren τ ⟨.own, false, 1, sz, fun x b => nthP L ((0 + x) * sz + b)⟩) (vRow c sz (0 + 1) (snocA 0 g y)) := by
  subst hL
  refine o_eq hc (Nat.le_refl _) fun a ha b hb => ?_
  obtain rfl : a = 0 := by omega
  show nthP (c y) ((0 + 0) * sz + b) = nthP (c (snocA 0 g y 0)) b
  simp [snocA]
theorem app_g {α : Type} {c : α → List PV} (hc : CellsCl c) {τ : Nat → Option Nat} {sz m M : Nat} {g : Nat → α} {L : List PV} (hL : L = c (g m)) (hM : M = m + 1) : RowEq (Row.ren τ ⟨.own, false, M, sz, appF m (fun x => tF c g (0 + x)) (fun x b => nthP L ((0 + x) * sz + b))⟩) (vRow c sz (m + 1) g) := by
  subst hL hM
  refine o_eq hc (Nat.le_refl _) fun a ha b hb => ?_
  by_cases e : a < m
  · rw [appF_lt _ _ e, Nat.zero_add]; rfl
  · obtain rfl : a = m := by omega
    rw [appF_ge _ _ (Nat.le_refl _), Nat.sub_self, Nat.zero_add, Nat.zero_mul, Nat.zero_add]
theorem app_g0 {α : Type} {c : α → List PV} (hc : CellsCl c) {τ : Nat → Option Nat} {sz : Nat} {g : Nat → α} {L : List PV} (hL : L = c (g 0)) : RowEq (Row.ren τ ⟨.own, false, 1, sz, fun x b => nthP L ((0 + x) * sz + b)⟩) (vRow c sz (0 + 1) g) := by
  subst hL
  refine o_eq hc (Nat.le_refl _) fun a ha b hb => ?_
  obtain rfl : a = 0 := by omega
  show nthP (c (g 0)) ((0 + 0) * sz + b) = nthP (c (g 0)) b
  simp
def lF {α : Type} (d : α) (l : List α) (a : Nat) : α := l.getD a d
theorem lF_lt {α : Type} {d : α} {l r : List α} {a : Nat} (h : a < l.length) : lF d (l ++ r) a = lF d l a := by
  unfold lF; rw [List.getD_eq_getElem?_getD, List.getD_eq_getElem?_getD, List.getElem?_append_left h]
theorem lF_at {α : Type} {d y : α} {l r : List α} : lF d (l ++ y :: r) l.length = y := by
  unfold lF; rw [List.getD_eq_getElem?_getD]; simp
theorem app_l {α : Type} {c : α → List PV} (hc : CellsCl c) {τ : Nat → Option Nat} {sz m M : Nat} {d : α} {l : List α} {y : α} {L : List PV} (hl : l.length = m) (hL : L = c y) (hM : M = m + 1) : RowEq (Row.ren τ ⟨.own, false, M, sz, appF m (fun x => tF c (lF d l) (0 + x)) (fun x b => nthP L ((0 + x) * sz + b))⟩) (vRow c sz (m + 1) (lF d (l ++ [y]))) := by
  subst hL hM hl
  refine o_eq hc (Nat.le_refl _) fun a ha b hb => ?_
  by_cases e : a < l.length
  · rw [appF_lt _ _ e, Nat.zero_add, lF_lt e]; rfl
  · obtain rfl : a = l.length := by omega
    rw [appF_ge _ _ (Nat.le_refl _), Nat.sub_self, Nat.zero_add, Nat.zero_mul, Nat.zero_add, lF_at]
theorem app_l0 {α : Type} {c : α → List PV} (hc : CellsCl c) {τ : Nat → Option Nat} {sz : Nat} {d : α} {l : List α} {y : α} {L : List PV} (hl : l.length = 0) (hL : L = c y) : RowEq (Row.ren τ ⟨.own, false, 1, sz, fun x b => nthP L ((0 + x) * sz + b)⟩) (vRow c sz (0 + 1) (lF d (l ++ [y]))) := by
  subst hL
  have : l = [] := List.length_eq_zero_iff.1 hl
  subst this
  refine o_eq hc (Nat.le_refl _) fun a ha b hb => ?_
  obtain rfl : a = 0 := by omega
  show nthP (c y) ((0 + 0) * sz + b) = nthP (c (lF d ([] ++ [y]) 0)) b
  simp [lF]
theorem upd_o {α : Type} {c : α → List PV} (hc : CellsCl c) {τ : Nat → Option Nat} {sz n i j : Nat} {g : Nat → α} {y : α} {L : List PV} (hL : L = c y) (hj : j = i) : RowEq (Row.ren τ ⟨.own, false, n, sz, updR (tF c g) j L⟩) (oRow c sz n (updA g i y)) := by
  subst hL hj
  refine o_eq hc (Nat.le_refl _) fun a ha b hb => ?_
  unfold updR updA
  by_cases e : a = j
  · subst e; simp
  · have : Nat.beq a j = false := by cases hb2 : Nat.beq a j; rfl; exact absurd (Nat.eq_of_beq_eq_true hb2) e
    simp only [this, if_neg e, cond_false]; rfl
theorem zero_o {α : Type} {c : α → List PV} (hc : CellsCl c) {τ : Nat → Option Nat} {sz n n' : Nat} {y : α} {L : List PV} (hL : L = c y) (hn : n' = n) : RowEq (Row.ren τ ⟨.own, false, n, sz, fun _ => nthP L⟩) (oRow c sz n' (fun _ => y)) := by
  subst hL hn
  exact o_eq hc (Nat.le_refl _) fun a ha b hb => rfl
theorem arg_o {α : Type} {c : α → List PV} (hc : CellsCl c) {mem : List Row} {L : List Nat} {l n sz : Nat} {g : Nat → α} {s : RS} (hr : rowAt mem l = some ⟨s, false, n, sz, tF c g⟩) (hs : s.live) (hL : l ∈ L) : ArgOk mem L (.lsl l 0 n) (.vsl n sz (tF c g)) :=
  argLsl (r := ⟨s, false, n, sz, tF c g⟩) hr hs hL (by simp) fun a ha b hb => ⟨by show tF c g (0 + a) b = _; rw [Nat.zero_add], tF_cl hc g a b⟩
theorem arg_v {α : Type} {c : α → List PV} (hc : CellsCl c) {mem : List Row} {L : List Nat} {l n sz : Nat} {g : Nat → α} (hr : rowAt mem l = some (vRow c sz n g)) (hL : l ∈ L) : ArgOk mem L (slP n l) (.vsl n sz (tF c g)) := by
  cases n with
  | zero => exact argNil
  | succ n => exact arg_o hc hr trivial hL
theorem peq_slP {τ : Nat → Option Nat} {k l l' : Nat} (h : τ l = some l') : PEq ((slP k l).ren τ) (slP k l') := by
  cases k with
  | zero => exact PEq.refl _
  | succ k =>
    show PEq (match τ l with | some l' => PV.lsl l' 0 (k + 1) | none => .junk) (.lsl l' 0 (k + 1))
    rw [h]; exact PEq.refl _
theorem peq_nil {sz : Nat} {f : Nat → Nat → PV} : PEq (.val (.slice none 0 0)) (.vsl 0 sz f) := fun k ρ I w v h => ⟨none, 0, h, Nat.le_refl _, .inl rfl⟩
theorem tI_eq (g : Nat → Int) (i : Nat) : tI g i 0 = tF c1 g i 0 := rfl
theorem argTI {mem : List Row} {L : List Nat} {p : PV} {n : Nat} {g : Nat → Int} (h : ArgOk mem L p (.vsl n 1 (tF c1 g))) : ArgOk mem L p (.vsl n 1 (tI g)) := fun ρ I w v hm hv => by
  obtain ⟨a, cap, h1, h2, h3⟩ := h ρ I w v hm hv
  refine ⟨a, cap, h1, h2, h3.imp id ?_⟩
  rintro ⟨b, o, e, hb, h4⟩
  refine ⟨b, o, e, hb, fun i hi j hj => ?_⟩
  have hj0 : j = 0 := by omega
  subst hj0
  exact h4 i hi 0 hj
abbrev cN (x : Nat) : List PV := [vi (x : Int)]
theorem cN_cl : CellsCl cN := fun _ => ⟨trivial, trivial⟩
theorem argTN {mem : List Row} {L : List Nat} {p : PV} {n : Nat} {l : List Nat} (h : ArgOk mem L p (.vsl n 1 (tF cN (lF 0 l)))) : ArgOk mem L p (.vsl n 1 (tI (lN l))) := fun ρ I w v hm hv => by
  obtain ⟨a, cap, h1, h2, h3⟩ := h ρ I w v hm hv
  refine ⟨a, cap, h1, h2, h3.imp id ?_⟩
  rintro ⟨b, o, e, hb, h4⟩
  refine ⟨b, o, e, hb, fun i hi j hj => ?_⟩
  have hj0 : j = 0 := by omega
  subst hj0
  exact h4 i hi 0 hj
def slLen : PV → Option Nat
  | .vsl n _ _ => some n
  | .lsl _ _ n => some n
  | .val (.slice none n _) => some n
  | _ => none
section
variable {G : Pg} {N : Nat} {Γ : Fr} {st : PSt} {K : Exit → PSt → Prop} {ops : Array Oper} {o : Oper} {rest : List Oper} {d : Nat}
theorem slLen_rel {k : Nat} {ρ : Nat → Loc} {I : Nat → Prop} {w : World} {p : PV} {v : Value} {n : Nat} (h : slLen p = some n) (hv : VRel k ρ I w p v) : ∃ a cap, v = .slice a n cap ∧ (0 < n → (∃ x, a = some x) ∨ ∃ c, p = .val (.slice none n c)) := by
  unfold slLen at h
  split at h
  · simp only [Option.some.injEq] at h
    subst h
    obtain ⟨a, cap, rfl, _, h3⟩ := hv
    refine ⟨a, cap, rfl, fun hn => ?_⟩
    rcases h3 with h3 | ⟨b, o, e, _⟩
    · omega
    · exact .inl ⟨_, e⟩
  · simp only [Option.some.injEq] at h
    subst h
    rcases hv.2 with ⟨rfl, a, rfl⟩ | ⟨cap, _, rfl, _⟩
    · exact ⟨a, 0, rfl, fun h => by omega⟩
    · exact ⟨_, cap, rfl, fun _ => .inl ⟨_, rfl⟩⟩
  · rename_i m c
    simp only [Option.some.injEq] at h
    subst h
    exact ⟨none, c, hv, fun _ => .inr ⟨c, rfl⟩⟩
  · cases h
theorem pop_nileq {t t' e n : Nat} {x : Operand} (hg : o.guard = none) (hd : o.dst = some d) (hN : Nat.blt d N = true) (ho : o.op = .binOp .eql t x (.const (.slice none 0 0)) t') (hk : (tget G.tab t).k = .slice e) (hl : slLen (st.ev x) = some n) (hne : ∀ c, st.ev x ≠ .val (.slice none n c) ∨ n = 0)
    (h : ∀ b : Bool, (0 < n → b = false) → POps G N Γ ops rest (st.put d (vb b)) K) : POps G N Γ ops (o :: rest) st K := .mk fun ρ I a w hrel => by
  have hw : Region.wanted o (yielded ops a.tmps) = true := by simp [Region.wanted, hg]
  simp only [wpList, hw, if_true]
  refine .inl ?_
  obtain ⟨ad, cap, hv, hn⟩ := slLen_rel hl (ev_rel hrel x)
  have hu := tab_slice G.ok hk
  have hrun : (execOp a.eval o).run G.P w = .ok (.value (.bool ad.isNone)) w := by
    have hc : a.eval (.const (.slice none 0 0)) = .slice none 0 0 := rfl
    have hb : (binOp .eql t (.slice ad n cap) (.slice none 0 0)).run G.P w = .ok (.bool ad.isNone) w := by
      show (do pure (Value.bool (← Op.equal t (.slice ad n cap) (.slice none 0 0))) : Sem Value).run G.P w = _
      simp only [Sem.run_bind, run_equal_slice_nil w t e ad n cap hu, Result.andThen_ok, Sem.run_pure]
    simp only [execOp, ho, hv, hc, Sem.run_bind, eqGuard_plain .eql t x (.const (.slice none 0 0)) (.slice ad n cap) (.slice none 0 0) w (by simp) (by simp), hb, Result.andThen_ok, Sem.run_pure]
  simp only [Oper.wp, hrun, Oper.upon_value, hd]
  refine (h ad.isNone fun hn0 => ?_).go ρ I _ w (hrel.put (by rwa [Nat.blt_eq] at hN) rfl)
  rcases hn hn0 with ⟨y, rfl⟩ | ⟨c, hc⟩
  · rfl
  · rcases hne c with hh | hh
    · exact absurd hc hh
    · omega
end
theorem clq {α : Type} {c : α → List PV} (h : CellsCl c := by first | exact c1_cl | exact cN_cl | exact cO_cl | exact cE_cl | exact cP_cl) : CellsCl c := h
theorem rqq {r r' : Row} (h : RowEq r r' := by first | exact RowEq.cl (tape_cl _ _ _) | exact RowEq.cl (i_cl _ _) | exact RowEq.cl (o_cl clq _ _ _) | exact RowEq.cl (v_cl clq _ _ _) | exact app_l clq (by assumption) rfl rfl | exact app_l0 clq (by assumption) rfl | exact app_g clq rfl rfl | exact app_g0 clq rfl | exact app_v clq rfl rfl | exact app_o clq rfl rfl | exact app_0 clq rfl | exact upd_o clq rfl (by omega) | exact zero_o clq rfl rfl | exact var_eq (by (repeat refine ⟨PEq.refl _, ?_⟩); exact trivial) | exact i_eq (Nat.le_refl _) (fun _ _ => rfl)) : RowEq r r' := h
theorem tmq {P : Prop} (h : P := by (repeat (first | refine ⟨PEq.refl _, ?_⟩ | refine ⟨peq_slP rfl, ?_⟩ | refine ⟨PEq.cl _ (by assumption), ?_⟩)); exact trivial) : P := h
end Go.Proofs.YtcghpepighboaaaDoor
