/- Regions that draw their order, on pure states. -/
import Derived.Test.YtcghpepighboaaaDoorPvRead2
set_option linter.unusedSimpArgs false
set_option linter.unusedVariables false
namespace Go.Proofs.YtcghpepighboaaaDoor
open Go.RowKit
def maskM (H : List Nat) : Nat → List Row → List Row
  | _, [] => []
  | l, r :: m => cond (H.any (Nat.beq l)) r ⟨.dead, r.one, r.n, r.sz, r.f⟩ :: maskM H (l + 1) m
theorem maskM_length (H : List Nat) : ∀ (m : List Row) (l : Nat), (maskM H l m).length = m.length
  | [], _ => rfl
  | _ :: m, l => by simp [maskM, maskM_length H m]
theorem maskM_get (H : List Nat) : ∀ (m : List Row) (s l : Nat) (r : Row), (maskM H s m)[l]? = some r → r.s.live → m[l]? = some r ∧ s + l ∈ H
  | [], _, _, _, h, _ => by simp [maskM] at h
  | r0 :: m, s, 0, r, h, hl => by
    simp only [maskM, List.getElem?_cons_zero, Option.some.injEq] at h
    cases ha : H.any (Nat.beq s)
    · rw [ha] at h; subst h; exact hl.elim
    · rw [ha] at h; subst h; exact ⟨by simp, (any_beq H s).1 ha⟩
  | r0 :: m, s, l + 1, r, h, hl => by
    simp only [maskM, List.getElem?_cons_succ] at h
    obtain ⟨h1, h2⟩ := maskM_get H m (s + 1) l r h hl
    exact ⟨by simpa using h1, by rw [show s + (l + 1) = s + 1 + l by omega]; exact h2⟩
theorem maskM_mp (H : List Nat) : ∀ (m : List Row) (s l : Nat) (r : Row), (maskM H s m)[l]? = some r → r.s = .mp → m[l]? = some r
  | [], _, _, _, h, _ => by simp [maskM] at h
  | r0 :: m, s, 0, r, h, hl => by
    simp only [maskM, List.getElem?_cons_zero, Option.some.injEq] at h
    cases ha : H.any (Nat.beq s)
    · rw [ha] at h; subst h; cases hl
    · rw [ha] at h; subst h; simp
  | r0 :: m, s, l + 1, r, h, hl => by
    simp only [maskM, List.getElem?_cons_succ] at h
    have h1 := maskM_mp H m (s + 1) l r h hl
    simpa using h1
structure AnyInv (HB : Nat → Prop) (w1 : World) (H : List Nat) (ni : Bool) (st : PSt) (ρ : Nat → Loc) (I : Nat → Prop) (w : World) : Prop where
  same : ∀ b, HB b → w.heap[b]? = w1.heap[b]?
  lt : ∀ b, HB b → b < w.heap.size
  held : ∀ l r, l ∈ H → st.mem[l]? = some r → r.s.live → HB (ρ l).b
  free : ∀ l r, l ∉ H → st.mem[l]? = some r → r.s.isOwn → ¬ HB (ρ l).b
  imm : ni = true → ∀ b, I b → HB b
structure PAny (G : Pg2) (N : Nat) (Γ : Fr) (ops : Array Oper) (H : List Nat) (ni : Bool) (fuel : Nat) (listed : Array Bool) (st : PSt) (K : Exit → PSt → Prop) : Prop where
  go : ∀ (HB : Nat → Prop) (w1 : World) ρ I a w, Rel N Γ st ρ I a w → AnyInv HB w1 H ni st ρ I w → wpAnyH G.P .any ops (Qf N Γ K) (fun w' => ∀ b, HB b → w'.heap[b]? = w1.heap[b]?) fuel listed a w
section
variable {G : Pg2} {N : Nat} {Γ : Fr} {st : PSt} {K : Exit → PSt → Prop} {ops : Array Oper} {o : Oper} {d : Nat} {r : PV} {pre : Prop} {H : List Nat} {ni : Bool} {fuel : Nat} {listed : Array Bool} {m : List Row}
theorem any_start {id : Nat} (H : List Nat) (n : Nat) (hn : ops.size = n) (h : PAny G N Γ ops H true n (Array.replicate n false) st K) : PWp G.toPg N Γ (.region id ops true) st K := .mk fun ρ I a w hr => by
  subst hn
  have hx : Ext w { w with drawn := w.drawn + 1 } := ⟨rfl, rfl, rfl, Nat.le_refl _, fun _ _ => rfl⟩
  have hr' := hr.ext hx (I' := I) (fun _ h => h) (fun _ h => .inl h)
  refine wp_region_held G.wide (h.go (fun b => I b ∨ ∃ l r, l ∈ H ∧ st.mem[l]? = some r ∧ r.s.live ∧ b = (ρ l).b) _ ρ I a _ hr' ⟨fun _ _ => rfl, ?_, ?_, ?_, ?_⟩)
  · rintro b (hb | ⟨l, r, _, hl, hs, rfl⟩)
    · exact hr'.fr.m.lt b hb
    · exact hr'.lt hl hs
  · exact fun l r hl hr hs => .inr ⟨l, r, hl, hr, hs, rfl⟩
  · rintro l r hl hr ho (hb | ⟨l', r', hl', hr2, hs', he⟩)
    · exact hr'.fr.m.mine l r hr ho hb
    · by_cases e : l = l'
      · subst e; exact hl hl'
      · exact hr'.fr.m.apart l l' r r' e hr hr2 (RS.live_of_own ho) hs' he
  · exact fun _ b hb => .inl hb
theorem any_done (hr : Region.ready .any ops listed = []) (h : K .normal st) : PAny G N Γ ops H ni fuel listed st K := .mk fun HB w1 ρ I a w hrel hinv =>
  wpAnyH_done hr ⟨by simp, st, ρ, I, h, hrel⟩ fuel
theorem hQ_any {v : Value} {dst : Option Tmp} : ∀ (c : List PanicEntry) (a : Act) (w : World), Qf N Γ K (.panic c) (a.put dst v) w → Qf N Γ K (.panic c) a w := fun c _ _ h => absurd rfl (h.1 c)
theorem AnyInv.put {HB : Nat → Prop} {w1 : World} {ρ : Nat → Loc} {I : Nat → Prop} {w : World} (h : AnyInv HB w1 H ni st ρ I w) (d : Nat) (p : PV) : AnyInv HB w1 H ni (st.put d p) ρ I w := ⟨h.same, h.lt, h.held, h.free, h.imm⟩
theorem Rel.mask {ρ : Nat → Loc} {I : Nat → Prop} {a : Act} {w : World} (h : Rel N Γ st ρ I a w) (H : List Nat) : Rel N Γ ⟨st.tm, maskM H 0 st.mem⟩ ρ I a w := by
  have up : ∀ {p : PV} {v : Value}, VRel st.mem.length ρ I w p v → VRel (maskM H 0 st.mem).length ρ I w p v := fun hv => by rw [maskM_length]; exact hv
  refine ⟨⟨⟨fun l r hl hs => ?_, fun l l' r r' hne hl hl' hs hs' => ?_, fun l r hl ho hb => ?_, fun l r hl hi => ?_, h.fr.m.lt, fun l r hl hm => ?_, fun l l' r r' hne hl hl' hs hs' => ?_⟩, h.fr.os, h.fr.tape, h.fr.output, h.fr.size, h.fr.block, h.fr.shape, h.fr.old, h.fr.new, fun l r hl ho hlt => ?_, fun l r hl ho hk => ?_, by rw [maskM_length]; exact h.fr.k0, h.fr.ρ0, fun l r hl hm hk => ?_, h.fr.gl⟩, h.defers, h.size, fun t => up (h.slot t)⟩
  · obtain ⟨e1, _⟩ := maskM_get H st.mem 0 l r hl hs
    obtain ⟨h1, cs, T, h2, h3⟩ := h.fr.m.row l r e1 hs
    exact ⟨h1, cs, T, h2, fun i hi j hj => by obtain ⟨u, g1, g2, g3⟩ := h3 i hi j hj; exact ⟨u, g1, g2, up g3⟩⟩
  · exact h.fr.m.apart l l' r r' hne (maskM_get H _ 0 l r hl hs).1 (maskM_get H _ 0 l' r' hl' hs').1 hs hs'
  · exact h.fr.m.mine l r (maskM_get H _ 0 l r hl (RS.live_of_own ho)).1 ho hb
  · exact h.fr.m.imm l r (maskM_get H _ 0 l r hl (by rw [hi]; trivial)).1 hi
  · obtain ⟨g1, g2⟩ := h.fr.m.side l r (maskM_mp H _ 0 l r hl hm) hm
    exact ⟨g1, g2.up (Nat.le_refl _) rfl (.refl _) fun i hi j hj v hv => up hv⟩
  · exact h.fr.m.sap l l' r r' hne (maskM_mp H _ 0 l r hl hs) (maskM_mp H _ 0 l' r' hl' hs') hs hs'
  · exact h.fr.own l r (maskM_get H _ 0 l r hl (RS.live_of_own ho)).1 ho hlt
  · exact h.fr.fresh l r (maskM_get H _ 0 l r hl (RS.live_of_own ho)).1 ho hk
  · exact h.fr.sfresh l r (maskM_mp H _ 0 l r hl hm) hm hk
theorem sameOn_any {HB : Nat → Prop} {w1 : World} {ρ : Nat → Loc} {I : Nat → Prop} {w : World} (h : AnyInv HB w1 H ni st ρ I w) {nb : Bool} (hnb : nb = true → ni = true) {w' : World} (hw : ∀ b, HB b → w'.heap[b]? = w1.heap[b]?) : SameOn nb ρ I (maskM H 0 st.mem) w w' :=
  ⟨fun hn b hb => by rw [hw b (h.imm (hnb hn) b hb), h.same b (h.imm (hnb hn) b hb)], fun l r hl hs => by
    obtain ⟨e1, e2⟩ := maskM_get H st.mem 0 l r hl hs
    have hb := h.held l r (by simpa using e2) e1 hs
    rw [hw _ hb, h.same _ hb]⟩
theorem any_take (i : Nat) (hi : ops[i]? = some o) (hs : Region.noSelect ops = true) (hf : Region.free .any ops listed i = true) (hready : (Region.ready .any ops listed).contains i = true) (hg : o.guard = none) (hd : o.dst = some d) (hN : Nat.blt d N = true)
    (hr : pread G.tab ⟨st.tm, maskM H 0 st.mem⟩ o.op = some (r, pre)) (hni : (needI st o.op && !ni) = false) (hp : pre) (h : PAny G N Γ ops H ni fuel (listed.setIfInBounds i true) (st.put d r) K) : PAny G N Γ ops H ni (fuel + 1) listed st K := .mk fun HB w1 ρ I a w hrel hinv => by
  obtain ⟨v, hv, hvr⟩ := pread_sound G.ok (hrel.mask H) o hr hp
  simp only [maskM_length] at hvr
  refine wpAnyH_take hi hs hf hready hQ_any (v := v) (.inl ⟨by simp [Region.wanted, hg], fun w' hw' => hv w' (sameOn_any hinv (fun hn => ?_) hw')⟩) hinv.same ?_
  · have : needI st o.op = true := by
      cases ho : o.op <;> rw [ho] at hn <;> exact hn
    rw [this] at hni; cases ni <;> simp_all
  · simp only [hd]
    exact h.go HB w1 ρ I _ w (hrel.put (by rwa [Nat.blt_eq] at hN) hvr) (hinv.put d r)
theorem any_take2 (i : Nat) (hi : ops[i]? = some o) (hs : Region.noSelect ops = true) (hf : Region.free .any ops listed i = true) (hready : (Region.ready .any ops listed).contains i = true) (hg : o.guard = none) (hd : o.dst = some d) (hN : Nat.blt d N = true)
    (hr : pread2 G.tab G.eqs ⟨st.tm, maskM H 0 st.mem⟩ o.op = some (r, pre)) (hp : pre) (h : PAny G N Γ ops H ni fuel (listed.setIfInBounds i true) (st.put d r) K) : PAny G N Γ ops H ni (fuel + 1) listed st K := .mk fun HB w1 ρ I a w hrel hinv => by
  obtain ⟨v, hv, hvr⟩ := pread2_sound G.ok G.eqsOk (hrel.mask H) o hr hp
  simp only [maskM_length] at hvr
  refine wpAnyH_take hi hs hf hready hQ_any (v := v) (.inl ⟨by simp [Region.wanted, hg], fun w' hw' => hv w' (sameOn_any hinv (fun hn => by cases hn) hw')⟩) hinv.same ?_
  simp only [hd]
  exact h.go HB w1 ρ I _ w (hrel.put (by rwa [Nat.blt_eq] at hN) hvr) (hinv.put d r)
theorem any_takeg {j : Nat} {want g : Bool} (i : Nat) (hi : ops[i]? = some o) (hs : Region.noSelect ops = true) (hf : Region.free .any ops listed i = true) (hready : (Region.ready .any ops listed).contains i = true) (hg : o.guard = some (j, want)) (hd : o.dst = some d) (hN : Nat.blt d N = true) (hgv : gval ops st j want = some g)
    (hr : pread G.tab ⟨st.tm, maskM H 0 st.mem⟩ o.op = some (r, pre)) (hni : (needI st o.op && !ni) = false) (hp : g = true → strP r pre) (h : PAny G N Γ ops H ni fuel (listed.setIfInBounds i true) (st.put d (.opt g (str r))) K) : PAny G N Γ ops H ni (fuel + 1) listed st K := .mk fun HB w1 ρ I a w hrel hinv => by
  have hw := gval_sound hrel hg hgv
  cases g
  · refine wpAnyH_take hi hs hf hready hQ_any (v := undef) (.inr ⟨hw, rfl⟩) hinv.same ?_
    simp only [hd]
    exact h.go HB w1 ρ I _ w (hrel.put (by rwa [Nat.blt_eq] at hN) ⟨by simp, fun _ => rfl⟩) (hinv.put d _)
  · obtain ⟨v, hv, hvr⟩ := pread_sound G.ok (hrel.mask H) o hr (strP_pre (hp rfl))
    have hvr := (str_rel hvr (hp rfl)).1
    simp only [maskM_length] at hvr
    refine wpAnyH_take hi hs hf hready hQ_any (v := v) (.inl ⟨hw, fun w' hw' => hv w' (sameOn_any hinv (fun hn => ?_) hw')⟩) hinv.same ?_
    · have : needI st o.op = true := by
        cases ho : o.op <;> rw [ho] at hn <;> exact hn
      rw [this] at hni; cases ni <;> simp_all
    · simp only [hd]
      exact h.go HB w1 ρ I _ w (hrel.put (by rwa [Nat.blt_eq] at hN) ⟨fun _ => hvr, by simp⟩) (hinv.put d _)
structure Chg (st : PSt) (ρ : Nat → Loc) (I : Nat → Prop) (w : World) (ch : List Nat) (nk : Bool) (st' : PSt) (ρ' : Nat → Loc) (I' : Nat → Prop) (w' : World) : Prop where
  size : w.heap.size ≤ w'.heap.size
  same : ∀ b, b < w.heap.size → (∀ (l : Nat) (r : Row), l ∈ ch → st.mem[l]? = some r → r.s.isOwn → b ≠ (ρ l).b) → w'.heap[b]? = w.heap[b]?
  loc : ∀ l, l < st.mem.length → ρ' l = ρ l
  imm : nk = true → ∀ b, I' b → I b
  live : ∀ l r', st'.mem[l]? = some r' → r'.s.live → (l < st.mem.length ∧ ∃ r, st.mem[l]? = some r ∧ r.s.live) ∨ (st.mem.length ≤ l ∧ (w.heap.size ≤ (ρ' l).b ∨ ∃ l0 r0, l0 ∈ ch ∧ st.mem[l0]? = some r0 ∧ r0.s.isOwn ∧ (ρ' l).b = (ρ l0).b))
  own : ∀ l r', st'.mem[l]? = some r' → r'.s.isOwn → (l < st.mem.length ∧ ∃ r, st.mem[l]? = some r ∧ r.s.isOwn) ∨ (st.mem.length ≤ l ∧ (w.heap.size ≤ (ρ' l).b ∨ ∃ l0 r0, l0 ∈ ch ∧ st.mem[l0]? = some r0 ∧ r0.s.isOwn ∧ (ρ' l).b = (ρ l0).b))
structure PStep (G : Pg2) (N : Nat) (Γ : Fr) (ops : Array Oper) (o : Oper) (st : PSt) (ch : List Nat) (nk : Bool) (K' : PSt → Prop) : Prop where
  go : ∀ ρ I a w, Rel N Γ st ρ I a w → ∀ Q : Exit → Act → World → Prop, if Region.wanted o (yielded ops a.tmps) then o.wp G.P a w (fun a' w' => ∃ st' ρ' I', K' st' ∧ Rel N Γ st' ρ' I' a' w' ∧ Chg st ρ I w ch nk st' ρ' I' w') Q else ∃ st' ρ' I', K' st' ∧ Rel N Γ st' ρ' I' (a.put o.dst undef) w ∧ Chg st ρ I w ch nk st' ρ' I' w
theorem lt_get {m : List Row} {l : Nat} {r : Row} (h : m[l]? = some r) : l < m.length := by
  by_cases hlt : l < m.length
  · exact hlt
  · rw [List.getElem?_eq_none (by omega)] at h; cases h
theorem Chg.refl {ρ : Nat → Loc} {I : Nat → Prop} {w w' : World} (hx : Ext w w') (d : Nat) (p : PV) : Chg st ρ I w [] true (st.put d p) ρ I w' :=
  ⟨hx.size, fun b hb _ => hx.block b hb, fun _ _ => rfl, fun _ _ h => h, fun l r hl hs => .inl ⟨lt_get hl, r, hl, hs⟩, fun l r hl hs => .inl ⟨lt_get hl, r, hl, hs⟩⟩
theorem AnyInv.step {HB : Nat → Prop} {w1 : World} {ρ ρ' : Nat → Loc} {I I' : Nat → Prop} {w w' : World} {st' : PSt} {ch : List Nat} {nk : Bool} (h : AnyInv HB w1 H ni st ρ I w) (hc : Chg st ρ I w ch nk st' ρ' I' w') (hch : ∀ l, l ∈ ch → l ∉ H) (hH : ∀ l, l ∈ H → l < st.mem.length) : AnyInv HB w1 H (ni && nk) st' ρ' I' w' := by
  have hs : ∀ b, HB b → w'.heap[b]? = w1.heap[b]? := fun b hb => by
    rw [hc.same b (h.lt b hb) (fun l r hl hr ho e => ?_)]
    · exact h.same b hb
    · exact h.free l r (hch l hl) hr ho (e ▸ hb)
  refine ⟨hs, fun b hb => Nat.lt_of_lt_of_le (h.lt b hb) hc.size, fun l r hl hr hlive => ?_, fun l r hl hr ho hb => ?_, fun hn b hb => ?_⟩
  · rcases hc.live l r hr hlive with ⟨hlt, r0, h0, hs0⟩ | ⟨hge, _⟩
    · rw [hc.loc l hlt]; exact h.held l r0 hl h0 hs0
    · exact absurd (hH l hl) (by omega)
  · rcases hc.own l r hr ho with ⟨hlt, r0, h0, hs0⟩ | ⟨hge, hfr⟩
    · rw [hc.loc l hlt] at hb; exact h.free l r0 hl h0 hs0 hb
    · rcases hfr with hfr | ⟨l0, r0, k1, k2, k3, k4⟩
      · exact absurd (h.lt _ hb) (by omega)
      · rw [k4] at hb; exact h.free l0 r0 (hch l0 k1) k2 k3 hb
  · simp only [Bool.and_eq_true] at hn
    exact h.imm hn.1 b (hc.imm hn.2 b hb)
def chB (H : List Nat) : List Nat → Bool
  | [] => true
  | l :: ch => !H.any (Nat.beq l) && chB H ch
theorem chB_spec {H : List Nat} : ∀ {ch : List Nat}, chB H ch = true → ∀ l, l ∈ ch → l ∉ H
  | [], _, l, hl, _ => by simp at hl
  | x :: ch, h, l, hl, hm => by
    rw [chB, Bool.and_eq_true] at h
    rcases List.mem_cons.1 hl with rfl | hl
    · rw [(any_beq H l).2 hm] at h; simp at h
    · exact chB_spec h.2 l hl hm
def inB (n : Nat) : List Nat → Bool
  | [] => true
  | l :: r => Nat.blt l n && inB n r
theorem inB_spec {n : Nat} : ∀ (H : List Nat), inB n H = true → ∀ l, l ∈ H → l < n
  | [], _, l, hl => by simp at hl
  | x :: r, h, l, hl => by
    simp only [inB, Bool.and_eq_true, Nat.blt_eq] at h
    rcases List.mem_cons.1 hl with rfl | hl
    · exact h.1
    · exact inB_spec r h.2 l hl
theorem any_one (i : Nat) (hi : ops[i]? = some o) (hready : Region.ready .any ops listed = [i]) {ch : List Nat} {nk : Bool} (hchb : chB H ch = true) (hHb : inB st.mem.length H = true) (hstep : PStep G N Γ ops o st ch nk (fun st' => PAny G N Γ ops H (ni && nk) fuel (listed.setIfInBounds i true) st' K)) : PAny G N Γ ops H ni (fuel + 1) listed st K := .mk fun HB w1 ρ I a w hrel hinv => by
  have hch := chB_spec hchb
  have hH := inB_spec H hHb
  refine wpAnyH_all hready (by simp) (fun j hj => ?_)
  have : j = i := by simpa using hj
  subst this
  unfold wpOp
  simp only [hi]
  have hs := hstep.go ρ I a w hrel (Qf N Γ K)
  by_cases hw : Region.wanted o (yielded ops a.tmps) = true
  · rw [if_pos hw] at hs ⊢
    refine .inl (Oper.wp_mono (fun a' w' => ?_) hs)
    rintro ⟨st', ρ', I', hk, hrel', hc⟩
    have hinv' := hinv.step hc hch hH
    exact ⟨hinv'.same, hk.go HB w1 ρ' I' a' w' hrel' hinv'⟩
  · rw [if_neg hw] at hs ⊢
    obtain ⟨st', ρ', I', hk, hrel', hc⟩ := hs
    have hinv' := hinv.step hc hch hH
    exact ⟨hinv'.same, hk.go HB w1 ρ' I' _ w hrel' hinv'⟩
theorem chg_new {ρ ρ' : Nat → Loc} {I : Nat → Prop} {a : Act} {w w' : World} {v : Value} (hmade : Made N Γ st ρ I a w r m v w' ρ') (d : Nat) : Chg st ρ I w [] true (PSt.put ⟨st.tm, m⟩ d r) ρ' I w' := by
  obtain ⟨row, hmm⟩ := hmade.mem
  have hsplit : ∀ l (r' : Row), m[l]? = some r' → (l < st.mem.length ∧ st.mem[l]? = some r') ∨ l = st.mem.length := fun l r' hl => by
    rw [hmm] at hl
    by_cases hlt : l < st.mem.length
    · rw [List.getElem?_append_left hlt] at hl; exact .inl ⟨hlt, hl⟩
    · have := lt_get hl; simp at this; exact .inr (by omega)
  refine ⟨hmade.ext.size, fun b hb _ => hmade.ext.block b hb, hmade.same, fun _ _ h => h, fun l r' hl hs => ?_, fun l r' hl hs => ?_⟩
  · rcases hsplit l r' hl with ⟨h1, h2⟩ | rfl
    · exact .inl ⟨h1, r', h2, hs⟩
    · exact .inr ⟨Nat.le_refl _, .inl (by rw [hmade.new]; exact Nat.le_refl _)⟩
  · rcases hsplit l r' hl with ⟨h1, h2⟩ | rfl
    · exact .inl ⟨h1, r', h2, hs⟩
    · exact .inr ⟨Nat.le_refl _, .inl (by rw [hmade.new]; exact Nat.le_refl _)⟩
theorem pst_new {K' : PSt → Prop} (hg : o.guard = none) (hd : o.dst = some d) (hN : Nat.blt d N = true) (hr : pnew G.tab st o.op = some (r, m, pre)) (hp : pre) (h : K' (PSt.put ⟨st.tm, m⟩ d r)) : PStep G N Γ ops o st [] true K' := .mk fun ρ I a w hrel Q => by
  obtain ⟨v, w', ρ', hv, hmade⟩ := pnew_sound hrel o hr hp
  have hw : Region.wanted o (yielded ops a.tmps) = true := by simp [Region.wanted, hg]
  rw [if_pos hw]
  simp only [Oper.wp, hv, Oper.upon_value, hd]
  exact ⟨_, ρ', I, h, hmade.rel.put (by rwa [Nat.blt_eq] at hN) hmade.val, chg_new hmade d⟩
theorem pst_store {K' : PSt → Prop} {l : Nat} (hg : o.guard = none) (hd : o.dst = none) (hr : pstore G.tab st o.op = some (m, pre)) (hl : stL st o.op = some l) (hp : pre) (h : K' ⟨st.tm, m⟩) : PStep G N Γ ops o st [l] true K' := .mk fun ρ I a w hrel Q => by
  obtain ⟨w', l', row, hv, hm, hsl, hset, hown, hsz, ⟨r, hr, ho⟩, hoth⟩ := pstore_sound hrel o hr hp
  have hw : Region.wanted o (yielded ops a.tmps) = true := by simp [Region.wanted, hg]
  rw [if_pos hw]
  simp only [Oper.wp, hv, Oper.upon_skip, hd, Act.put]
  have e : l' = l := by rw [hsl] at hl; simpa using hl
  subst e
  have hsplit : ∀ k (r' : Row), m[k]? = some r' → (k < st.mem.length ∧ (st.mem[k]? = some r' ∨ k = l')) := fun k r' hk => by
    rw [hset] at hk
    have := lt_get hk
    refine ⟨by simpa using this, ?_⟩
    by_cases he : k = l'
    · exact .inr he
    · rw [List.getElem?_set_ne (Ne.symm he)] at hk; exact .inl hk
  refine ⟨_, ρ, I, h, hm, Nat.le_of_eq hsz.symm, fun b hb hne => hoth b (hne l' r (by simp) hr ho), fun _ _ => rfl, fun _ _ h => h, fun k r' hk hs => ?_, fun k r' hk hs => ?_⟩
  · obtain ⟨h1, h2 | rfl⟩ := hsplit k r' hk
    · exact .inl ⟨h1, r', h2, hs⟩
    · exact .inl ⟨h1, r, hr, RS.live_of_own ho⟩
  · obtain ⟨h1, h2 | rfl⟩ := hsplit k r' hk
    · exact .inl ⟨h1, r', h2, hs⟩
    · exact .inl ⟨h1, r, hr, ho⟩
theorem pst_call {K' : PSt → Prop} {f : FuncId} {x : Operand} {args : Array Operand} {tys : Array TypeId} {c : Nat → PV} {qs : List PV} {post : PV → Prop} (L : List Nat) (hg : o.guard = none) (hd : o.dst = some d) (hN : Nat.blt d N = true) (ho : o.op = .call ⟨.value x, args, tys⟩) (hx : st.ev x = .clo f 0 c)
    (hc : PureC G.P f qs post) (ha : ArgsOk st.mem L (args.toList.map st.ev) qs) (h : ∀ r, post r → Sc r ∧ K' (st.put d r)) : PStep G N Γ ops o st [] true K' := .mk fun ρ I a w hrel Q => by
  have hw : Region.wanted o (yielded ops a.tmps) = true := by simp [Region.wanted, hg]
  rw [if_pos hw]
  have hxe := ev_rel hrel x
  rw [hx] at hxe
  obtain ⟨cap, e1, e2, _⟩ := hxe
  have e3 : cap = #[] := by simpa using e2
  subst e3
  simp only [Oper.wp, call_run hc.1 ho e1, Oper.upon_enter]
  have hA := args_sound hrel.fr.m _ qs (args.toList.map a.eval) ha (fun i hi => evs_rel hrel args.toList i hi) (by simp)
  have hcall := hc.2 ρ (ASet ρ I st.mem L) w (args.toList.map a.eval) (fun b hb => by
    rcases hb with hb | ⟨l, r, _, hr, hs, rfl⟩
    · exact hrel.fr.m.lt b hb
    · exact hrel.lt hr hs) (hrel.fr.gl.sub fun b hb => .inl hb) hA
  have eargs : (args.map a.eval ++ #[]) = (args.toList.map a.eval).toArray := by apply Array.ext'; simp
  rw [eargs]
  refine hcall.mono ?_
  rintro e w' ⟨v, r, rfl, hpost, hext, hv⟩
  obtain ⟨hsc, hk⟩ := h r hpost
  simp only [hd]
  have hrel' := hrel.ext hext (I' := I) (fun _ h => h) (fun _ h => .inl h)
  exact ⟨_, ρ, I, hk, hrel'.put (by rwa [Nat.blt_eq] at hN) (Sc.rel r 0 _ v hsc hv), Chg.refl hext d r⟩
theorem pst_callg {K' : PSt → Prop} {j : Nat} {want g : Bool} {f : FuncId} {x : Operand} {args : Array Operand} {tys : Array TypeId} {c : Nat → PV} {qs : List PV} {post : PV → Prop} (L : List Nat) (hg : o.guard = some (j, want)) (hd : o.dst = some d) (hN : Nat.blt d N = true) (hgv : gval ops st j want = some g) (ho : o.op = .call ⟨.value x, args, tys⟩) (hx : st.ev x = .clo f 0 c)
    (hc : g = true → PureC G.P f qs post) (ha : g = true → ArgsOk st.mem L (args.toList.map st.ev) qs) (h : g = true → ∀ r, post r → Sc r ∧ K' (st.put d (.opt g r))) (hr0 : g = false → ∃ r, K' (st.put d (.opt g r))) : PStep G N Γ ops o st [] true K' := .mk fun ρ I a w hrel Q => by
  have hw := gval_sound hrel hg hgv
  cases g
  · obtain ⟨r, hk⟩ := hr0 rfl
    rw [hw]
    simp only [Bool.false_eq_true, if_false, hd]
    exact ⟨_, ρ, I, hk, hrel.put (by rwa [Nat.blt_eq] at hN) ⟨by simp, fun _ => rfl⟩, Chg.refl (Ext.refl w) d _⟩
  · rw [hw]
    simp only [if_true]
    have hc := hc rfl
    have ha := ha rfl
    have hxe := ev_rel hrel x
    rw [hx] at hxe
    obtain ⟨cap, e1, e2, _⟩ := hxe
    have e3 : cap = #[] := by simpa using e2
    subst e3
    simp only [Oper.wp, call_run hc.1 ho e1, Oper.upon_enter]
    have hA := args_sound hrel.fr.m _ qs (args.toList.map a.eval) ha (fun i hi => evs_rel hrel args.toList i hi) (by simp)
    have hcall := hc.2 ρ (ASet ρ I st.mem L) w (args.toList.map a.eval) (fun b hb => by
      rcases hb with hb | ⟨l, r, _, hr, hs, rfl⟩
      · exact hrel.fr.m.lt b hb
      · exact hrel.lt hr hs) (hrel.fr.gl.sub fun b hb => .inl hb) hA
    have eargs : (args.map a.eval ++ #[]) = (args.toList.map a.eval).toArray := by apply Array.ext'; simp
    rw [eargs]
    refine hcall.mono ?_
    rintro e w' ⟨v, r, rfl, hpost, hext, hv⟩
    obtain ⟨hsc, hk⟩ := h rfl r hpost
    simp only [hd]
    have hrel' := hrel.ext hext (I' := I) (fun _ h => h) (fun _ h => .inl h)
    exact ⟨_, ρ, I, hk, hrel'.put (by rwa [Nat.blt_eq] at hN) ⟨fun _ => Sc.rel r 0 _ v hsc hv, by simp⟩, Chg.refl hext d _⟩
theorem pst_read {K' : PSt → Prop} (hg : o.guard = none) (hd : o.dst = some d) (hN : Nat.blt d N = true) (hr : pread G.tab st o.op = some (r, pre)) (hp : pre) (h : K' (st.put d r)) : PStep G N Γ ops o st [] true K' := .mk fun ρ I a w hrel Q => by
  obtain ⟨v, hv, hvr⟩ := pread_sound G.ok hrel o hr hp
  have hw : Region.wanted o (yielded ops a.tmps) = true := by simp [Region.wanted, hg]
  rw [if_pos hw]
  simp only [Oper.wp, hv w (SameOn.refl _ _ _ _ _), Oper.upon_value, hd]
  exact ⟨_, ρ, I, h, hrel.put (by rwa [Nat.blt_eq] at hN) hvr, Chg.refl (Ext.refl w) d r⟩
end
open Go.RowKit
abbrev vi (n : Int) : PV := .val (.int .i64 n)
abbrev vu (n : Int) : PV := .val (.int .u64 n)
abbrev vb (b : Bool) : PV := .val (.bool b)
abbrev vs (s : ByteArray) : PV := .val (.string s)
theorem eqI {k : IntKind} {a b : Int} (h : a = b) : PV.val (.int k a) = PV.val (.int k b) := by rw [h]
theorem eqB {a b : Bool} (h : a = b) : PV.val (.bool a) = PV.val (.bool b) := by rw [h]
def allB : Nat → (Nat → Bool) → Bool
  | 0, _ => true
  | n + 1, f => allB n f && f n
theorem allB_spec : ∀ (n : Nat) (f : Nat → Bool), allB n f = true → ∀ i, i < n → f i = true
  | 0, _, _, i, h => by omega
  | n + 1, f, h, i, hi => by
    simp only [allB, Bool.and_eq_true] at h
    by_cases e : i = n
    · subst e; exact h.2
    · exact allB_spec n f h.1 i (by omega)
def clB : PV → Bool
  | .junk => true
  | .val _ => true
  | .agg n f => allB n fun i => clB (f i)
  | .tup n f => allB n fun i => clB (f i)
  | .vsl _ _ _ => true
  | .vptr _ _ _ _ _ => true
  | .opt _ p => clB p
  | .clo _ n c => allB n fun i => clB (c i)
  | _ => false
theorem clB_spec : ∀ p : PV, clB p = true → Cl p := by
  intro p
  induction p with
  | agg n f ih => intro h i hi; exact ih i (allB_spec n _ h i hi)
  | tup n f ih => intro h i hi; exact ih i (allB_spec n _ h i hi)
  | clo g n f ih => intro h i hi; exact ih i (allB_spec n _ h i hi)
  | opt b p ih => intro h; exact ih h
  | ptr => intro h; cases h
  | lsl => intro h; cases h
  | mref => intro h; cases h
  | _ => intro _; trivial
def scB : PV → Bool
  | .junk => true
  | .val _ => true
  | .agg n f => allB n fun i => scB (f i)
  | .tup n f => allB n fun i => scB (f i)
  | .opt _ p => scB p
  | _ => false
theorem scB_spec : ∀ p : PV, scB p = true → Sc p := by
  intro p
  induction p with
  | agg n f ih => intro h i hi; exact ih i (allB_spec n _ h i hi)
  | tup n f ih => intro h i hi; exact ih i (allB_spec n _ h i hi)
  | opt b p ih => intro h; exact ih h
  | junk => intro _; trivial
  | val => intro _; trivial
  | _ => intro h; cases h
def clBL : List PV → Bool
  | [] => true
  | p :: l => clB p && clBL l
theorem args_cl {mem : List Row} {L : List Nat} : ∀ (ps : List PV), clBL ps = true → ArgsOk mem L ps ps
  | [], _ => trivial
  | p :: ps, h => by
    simp only [clBL, Bool.and_eq_true] at h
    exact ⟨argCl (clB_spec p h.1), args_cl ps h.2⟩
theorem kretv {tab : List TI} {res : List ResultVar} {post : PV → Prop} {st : PSt} {ps : List PV} {pre : Prop} (h1 : presl tab st res = some (ps, pre)) (h2 : pre) (h3 : clBL ps = true) (h4 : post (pack ps)) : Kret tab res post .ret st := kret [] h1 h2 (args_cl ps h3) h4
theorem kretvn {tab : List TI} {res : List ResultVar} {post : PV → Prop} {st : PSt} {ps : List PV} {pre : Prop} (h1 : presl tab st res = some (ps, pre)) (h2 : pre) (h3 : clBL ps = true) (h4 : post (pack ps)) : Kret tab res post .normal st := kretn [] h1 h2 (args_cl ps h3) h4
def strPL : List PV → Prop
  | [] => True
  | p :: l => strP p (strPL l)
theorem args_str {mem : List Row} {L : List Nat} : ∀ (ps : List PV), strPL ps → clBL (ps.map str) = true → ArgsOk mem L ps (ps.map str)
  | [], _, _ => trivial
  | p :: ps, h, hc => by
    simp only [List.map_cons, clBL, Bool.and_eq_true] at hc
    cases p with
    | opt g q => exact ⟨argOpt h.1 (argCl (clB_spec _ hc.1)), args_str ps h.2 hc.2⟩
    | _ => exact ⟨argCl (clB_spec _ hc.1), args_str ps h hc.2⟩
section
variable {G : Pg} {N : Nat} {Γ : Fr} {st : PSt} {K : Exit → PSt → Prop} {ops : Array Oper} {o : Oper} {rest : List Oper} {d : Nat} {f : FuncId} {x : Operand} {args : Array Operand} {tys : Array TypeId} {c : Nat → PV} {qs : List PV} {X : PV}
theorem pop_callv (hg : o.guard = none) (hd : o.dst = some d) (hN : Nat.blt d N = true) (ho : o.op = .call ⟨.value x, args, tys⟩) (hx : st.ev x = .clo f 0 c) (hc : PureC G.P f qs (fun r => r = X)) (hq : args.toList.map st.ev = qs) (hcl : clBL qs = true) (hs : scB X = true)
    (h : POps G N Γ ops rest (st.put d X) K) : POps G N Γ ops (o :: rest) st K :=
  pop_call [] hg hd hN ho hx hc (by subst hq; exact args_cl _ hcl) (fun r hr => by subst hr; exact ⟨scB_spec _ hs, h⟩)
theorem pop_callgv {j : Nat} {want g : Bool} (hg : o.guard = some (j, want)) (hd : o.dst = some d) (hN : Nat.blt d N = true) (hgv : gval ops st j want = some g) (ho : o.op = .call ⟨.value x, args, tys⟩) (hx : st.ev x = .clo f 0 c) (hc : g = true → PureC G.P f qs (fun r => r = X)) (hp : g = true → strPL (args.toList.map st.ev)) (hq : (args.toList.map st.ev).map str = qs) (hcl : clBL qs = true) (hs : scB X = true)
    (h : POps G N Γ ops rest (st.put d (.opt g X)) K) : POps G N Γ ops (o :: rest) st K :=
  pop_callg (post := fun r => r = X) [] hg hd hN hgv ho hx hc (fun e => by subst hq; exact args_str _ (hp e) hcl) (fun _ r hr => by subst hr; exact ⟨scB_spec _ hs, h⟩) (fun _ => ⟨X, h⟩)
end
section
variable {G : Pg2} {N : Nat} {Γ : Fr} {st : PSt} {K' : PSt → Prop} {ops : Array Oper} {o : Oper} {d : Nat} {f : FuncId} {x : Operand} {args : Array Operand} {tys : Array TypeId} {c : Nat → PV} {qs : List PV} {X : PV}
theorem pst_callv (hg : o.guard = none) (hd : o.dst = some d) (hN : Nat.blt d N = true) (ho : o.op = .call ⟨.value x, args, tys⟩) (hx : st.ev x = .clo f 0 c) (hc : PureC G.P f qs (fun r => r = X)) (hq : args.toList.map st.ev = qs) (hcl : clBL qs = true) (hs : scB X = true)
    (h : K' (st.put d X)) : PStep G N Γ ops o st [] true K' :=
  pst_call [] hg hd hN ho hx hc (by subst hq; exact args_cl _ hcl) (fun r hr => by subst hr; exact ⟨scB_spec _ hs, h⟩)
theorem pst_callgv {j : Nat} {want g : Bool} (hg : o.guard = some (j, want)) (hd : o.dst = some d) (hN : Nat.blt d N = true) (hgv : gval ops st j want = some g) (ho : o.op = .call ⟨.value x, args, tys⟩) (hx : st.ev x = .clo f 0 c) (hc : g = true → PureC G.P f qs (fun r => r = X)) (hp : g = true → strPL (args.toList.map st.ev)) (hq : (args.toList.map st.ev).map str = qs) (hcl : clBL qs = true) (hs : scB X = true)
    (h : K' (st.put d (.opt g X))) : PStep G N Γ ops o st [] true K' :=
  pst_callg (post := fun r => r = X) [] hg hd hN hgv ho hx hc (fun e => by subst hq; exact args_str _ (hp e) hcl) (fun _ r hr => by subst hr; exact ⟨scB_spec _ hs, h⟩) (fun _ => ⟨X, h⟩)
end
theorem qgd {P : Prop} (h : P := by first | exact fun _ => trivial | exact fun h => ⟨h, trivial⟩ | exact fun h => ⟨h, h, trivial⟩ | exact fun _ => Nat.zero_lt_one | exact fun h => ⟨h, Nat.zero_lt_one⟩ | exact fun h => ⟨h, fun hb => by simp only [h, hb]; rfl⟩ | exact fun h => ⟨h, h, by omega, by omega⟩ | exact fun h => ⟨h, (show (_ : Nat) < _ from by first | omega | (simp only [iRow]; omega))⟩) : P := h
theorem qrd {P : Prop} (h : P := by first | exact Nat.zero_lt_one | exact pk_t | exact pk_f | exact (show (_ : Int) ≠ 0 from by omega) | (refine And.intro ?_ ?_ <;> omega) | exact (show (_ : Nat) < _ from by first | omega | (simp only [iRow]; omega))) : P := h
theorem qst {P : Prop} (h : P := by first | exact (show (_ : Nat) < _ from by first | omega | (simp only [iRow]; omega))) : P := h
theorem qtg {P : Prop} (h : P := by first | exact (fun _ => trivial) | exact (fun h => ⟨h, trivial⟩) | exact (fun h => ⟨h, h, trivial⟩) | exact (fun _ => Nat.zero_lt_one) | exact (fun h => ⟨h, Nat.zero_lt_one⟩)) : P := h
theorem qtk {P : Prop} (h : P := by first | exact trivial | exact Nat.zero_lt_one | exact pk_t | exact pk_f | assumption | omega | exact ⟨by omega, by omega⟩ | exact (Int.ne_of_gt (by omega))) : P := h
section
variable {G : Pg2} {N : Nat} {Γ : Fr} {st : PSt} {K : Exit → PSt → Prop} {ops : Array Oper} {o : Oper} {d : Nat} {r : PV} {pre : Prop} {H : List Nat} {ni : Bool} {fuel : Nat} {listed : Array Bool}
theorem aT (i : Nat) (h : PAny G N Γ ops H ni fuel (listed.setIfInBounds i true) (st.put d r) K) (hi : ops[i]? = some o := by exact rfl) (hs : Region.noSelect ops = true := by kernel_rfl) (hf : Region.free .any ops listed i = true := by kernel_rfl) (hready : (Region.ready .any ops listed).contains i = true := by kernel_rfl) (hg : o.guard = none := by exact rfl) (hd : o.dst = some d := by exact rfl) (hN : Nat.blt d N = true := by exact rfl)
    (hr : pread G.tab ⟨st.tm, maskM H 0 st.mem⟩ o.op = some (r, pre) := by exact rfl) (hni : (needI st o.op && !ni) = false := by exact rfl) (hp : pre := by exact qtk) : PAny G N Γ ops H ni (fuel + 1) listed st K := any_take i hi hs hf hready hg hd hN hr hni hp h
theorem aT2 (i : Nat) (h : PAny G N Γ ops H ni fuel (listed.setIfInBounds i true) (st.put d r) K) (hi : ops[i]? = some o := by exact rfl) (hs : Region.noSelect ops = true := by kernel_rfl) (hf : Region.free .any ops listed i = true := by kernel_rfl) (hready : (Region.ready .any ops listed).contains i = true := by kernel_rfl) (hg : o.guard = none := by exact rfl) (hd : o.dst = some d := by exact rfl) (hN : Nat.blt d N = true := by exact rfl)
    (hr : pread2 G.tab G.eqs ⟨st.tm, maskM H 0 st.mem⟩ o.op = some (r, pre) := by exact rfl) (hp : pre := by exact qtk) : PAny G N Γ ops H ni (fuel + 1) listed st K := any_take2 i hi hs hf hready hg hd hN hr hp h
theorem aC (i : Nat) (hp : pre) (h : PAny G N Γ ops H ni fuel (listed.setIfInBounds i true) (st.put d r) K) (hi : ops[i]? = some o := by exact rfl) (hs : Region.noSelect ops = true := by kernel_rfl) (hf : Region.free .any ops listed i = true := by kernel_rfl) (hready : (Region.ready .any ops listed).contains i = true := by kernel_rfl) (hg : o.guard = none := by exact rfl) (hd : o.dst = some d := by exact rfl) (hN : Nat.blt d N = true := by exact rfl)
    (hr : pread G.tab ⟨st.tm, maskM H 0 st.mem⟩ o.op = some (r, pre) := by exact rfl) (hni : (needI st o.op && !ni) = false := by exact rfl) : PAny G N Γ ops H ni (fuel + 1) listed st K := any_take i hi hs hf hready hg hd hN hr hni hp h
theorem aC2 (i : Nat) (hp : pre) (h : PAny G N Γ ops H ni fuel (listed.setIfInBounds i true) (st.put d r) K) (hi : ops[i]? = some o := by exact rfl) (hs : Region.noSelect ops = true := by kernel_rfl) (hf : Region.free .any ops listed i = true := by kernel_rfl) (hready : (Region.ready .any ops listed).contains i = true := by kernel_rfl) (hg : o.guard = none := by exact rfl) (hd : o.dst = some d := by exact rfl) (hN : Nat.blt d N = true := by exact rfl)
    (hr : pread2 G.tab G.eqs ⟨st.tm, maskM H 0 st.mem⟩ o.op = some (r, pre) := by exact rfl) : PAny G N Γ ops H ni (fuel + 1) listed st K := any_take2 i hi hs hf hready hg hd hN hr hp h
theorem aO (i : Nat) (hi : ops[i]? = some o) {ch : List Nat} {nk : Bool} (hstep : PStep G N Γ ops o st ch nk (fun st' => PAny G N Γ ops H (ni && nk) fuel (listed.setIfInBounds i true) st' K)) (hready : Region.ready .any ops listed = [i] := by kernel_rfl) (hchb : chB H ch = true := by exact rfl) (hHb : inB st.mem.length H = true := by exact rfl) : PAny G N Γ ops H ni (fuel + 1) listed st K := any_one i hi hready hchb hHb hstep
end
end Go.Proofs.YtcghpepighboaaaDoor
