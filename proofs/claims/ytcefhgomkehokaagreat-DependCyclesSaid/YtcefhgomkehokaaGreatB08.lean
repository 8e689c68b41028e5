/- Functions of values whose results hold slices that they made themselves: the rows handed in may be changed again. -/
import Derived.Test.YtcefhgomkehokaaGreatB04
import Derived.Test.YtcefhgomkehokaaGreatB05
import Derived.Test.YtcefhgomkehokaaGreatB06
import Derived.Test.YtcefhgomkehokaaGreatB07
import Derived.Maps.RangeRun
set_option linter.unusedSimpArgs false
set_option linter.unusedVariables false
set_option maxRecDepth 100000
namespace Go.Proofs.YtcefhgomkehokaaGreat
def FSet (ρ : Nat → Loc) (mem : List Row) (L : List Nat) (b : Nat) : Prop := ∃ l r, l ∈ L ∧ mem[l]? = some r ∧ r.s.isOwn ∧ b = (ρ l).b
def ArgF (mem : List Row) (L : List Nat) (p q : PV) : Prop :=
  ∀ (ρ : Nat → Loc) (I : Nat → Prop) (w : World) (v : Value), MRel ρ I w mem → VRel mem.length ρ I w p v → VRel 0 ρ (FSet ρ mem L) w q v
def ArgsF (mem : List Row) (L : List Nat) : List PV → List PV → Prop
  | [], [] => True
  | p :: ps, q :: qs => ArgF mem L p q ∧ ArgsF mem L ps qs
  | _, _ => False
def PureF (P : Program) (f : FuncId) (args : List PV) (post : PV → Prop) : Prop :=
  CallOk P f ∧ ∀ (ρ : Nat → Loc) (A : Nat → Prop) (w : World) (vs : List Value), (∀ b, A b → b < w.heap.size) → GOk A w → ARel ρ A w args vs →
    Calls P f vs.toArray w fun e w' => ∃ v r, e = .returned v ∧ post r ∧ Ext w w' ∧ VRel 0 ρ (fun b => w.heap.size ≤ b ∧ b < w'.heap.size) w' r v
theorem PureF.pure {P : Program} {f : FuncId} {args : List PV} {post : PV → Prop} (h : PureF P f args post) : PureC P f args post :=
  ⟨h.1, fun ρ A w vs hA hG ha => (h.2 ρ A w vs hA hG ha).mono fun e w' ⟨v, r, h1, h2, h3, h4⟩ => ⟨v, r, h1, h2, h3, h4.up (Nat.le_refl _) (fun _ _ => rfl) (fun b hb => .inr hb) (Tr.refl _ _)⟩⟩
theorem PureF.mono {P : Program} {f : FuncId} {args : List PV} {post post' : PV → Prop} (h : PureF P f args post) (hp : ∀ r, post r → post' r) : PureF P f args post' :=
  ⟨h.1, fun ρ A w vs hA hG ha => (h.2 ρ A w vs hA hG ha).mono fun e w' ⟨v, r, h1, h2, h3⟩ => ⟨v, r, h1, hp r h2, h3⟩⟩
structure KretF (tab : List TI) (res : List ResultVar) (post : PV → Prop) (e : Exit) (st : PSt) : Prop where
  go : (e = .normal ∨ e = .ret) ∧ ∃ ps pre L qs, presl tab st res = some (ps, pre) ∧ pre ∧ ArgsF st.mem L ps qs ∧ post (pack qs)
section
variable {N : Nat} {Γ : Fr} {st : PSt} {K : Exit → PSt → Prop} {ops : Array Oper} {o : Oper} {rest : List Oper} {d : Nat}
end
theorem xs_startH {G : Pg2} {N : Nat} {Γ : Fr} {K : Exit → PSt → Prop} {ops : Array Oper} {st : PSt} {id : Nat} (H : List Nat) (fin : Bool) (sch : Sched) (m : Nat) (hn : ops.size = schLen sch + m) (hok : (Region.noSelect ops && schOk ops fin sch (Array.replicate (schLen sch + m) false)) = true) (h : PS G N Γ ops H true fin sch m (Array.replicate (schLen sch + m) false) st K) : PWp G.toPg N Γ (.region id ops true) st K := by
  simp only [Bool.and_eq_true] at hok
  exact pe_start H _ hn (h.go hok.1 hok.2)
def RowsF (mem : List Row) (L : List Nat) : List Row → List Row → Prop
  | [], [] => True
  | r :: rs, q :: qs => (r = q ∨ (r.s.live ∧ q.s = r.s ∧ q.sz = r.sz ∧ q.n = r.n ∧ ∀ i, i < r.n → ∀ j, j < r.sz → ArgOk mem L (r.f i j) (q.f i j))) ∧ RowsF mem L rs qs
  | _, _ => False
theorem RowsF.get {mem : List Row} {L : List Nat} : ∀ {rs qs : List Row}, RowsF mem L rs qs → rs.length = qs.length ∧ ∀ (l : Nat) (q : Row), qs[l]? = some q → ∃ r, rs[l]? = some r ∧ (r = q ∨ (r.s.live ∧ q.s = r.s ∧ q.sz = r.sz ∧ q.n = r.n ∧ ∀ i, i < r.n → ∀ j, j < r.sz → ArgOk mem L (r.f i j) (q.f i j)))
  | [], [], _ => ⟨rfl, fun l q h => by simp at h⟩
  | r :: rs, q :: qs, h => by
    obtain ⟨h1, h2⟩ := RowsF.get h.2
    refine ⟨by simp [h1], fun l x hx => ?_⟩
    cases l with
    | zero =>
      simp only [List.getElem?_cons_zero, Option.some.injEq] at hx
      subst hx
      exact ⟨r, rfl, h.1⟩
    | succ l => exact h2 l x (by simpa using hx)
  | [], _ :: _, h => h.elim
  | _ :: _, [], h => h.elim
section
variable {N : Nat} {Γ : Fr} {st : PSt}
theorem can_frzm (L : List Nat) {tm : List (Nat × PV)} {m rows : List Row} (hL : ∀ l, l ∈ L → Γ.k0 ≤ l) (hm0 : frzK L st.mem 0 some = some m) (ht : TmF st L tm) (hr : RowsF st.mem L m rows) : Can N Γ st ⟨tm, rows⟩ := fun ρ I a w h => by
  have hm : frzL L 0 st.mem = m := by rw [frzK_eq] at hm0; simpa using hm0
  subst hm
  have hf := h.freeze L hL
  obtain ⟨hlen, hget⟩ := hr.get
  have hlen2 : rows.length = st.mem.length := by rw [← hlen, frzL_length]
  have hs' := hf.slot
  simp only [frzL_length] at hs'
  have gs : ∀ (l : Nat) (q : Row), rows[l]? = some q → ∃ r, (frzL L 0 st.mem)[l]? = some r ∧ q.s = r.s := fun l q hq => by
    obtain ⟨r, e1, e2⟩ := hget l q hq
    refine ⟨r, e1, ?_⟩
    rcases e2 with rfl | ⟨_, e, _⟩
    · rfl
    · exact e
  refine ⟨ρ, _, ⟨⟨fun l q hq hl => ?_, fun l l' q q' hne hq hq' h1 h2 => ?_, fun l q hq ho => ?_, fun l q hq ho => ?_, hf.fr.m.lt, fun l q hq hmp => ?_, fun l l' q q' hne hq hq' h1 h2 => ?_⟩, hf.fr.os, hf.fr.tape, hf.fr.output, hf.fr.size, hf.fr.block, hf.fr.shape, hf.fr.old, hf.fr.new, fun l q hq ho hlt => ?_, fun l q hq ho hk => ?_, by rw [hlen2]; exact h.fr.k0, hf.fr.ρ0, fun l q hq ho hk => ?_, hf.fr.gl⟩, hf.defers, hf.size, fun t => ?_⟩
  · obtain ⟨r, e1, e2⟩ := hget l q hq
    rw [hlen2]
    rcases e2 with rfl | ⟨e2, e3, e4, e5, e6⟩
    · have := hf.fr.m.row l r e1 hl
      simp only [frzL_length] at this
      exact this
    · obtain ⟨r0, f1, f2, f3, f4, f5, _⟩ := frzL_get L st.mem 0 l r e1
      have hl0 : r0.s.live := by
        rcases f5 with f5 | ⟨_, f5, _⟩
        · rw [← f5]; exact e2
        · rw [f5]; trivial
      obtain ⟨h1, cs, T, h2, h3⟩ := h.fr.m.row l r0 f1 hl0
      refine ⟨h1.trans (f3.symm.trans e4.symm), cs, T, h2, fun i hi j hj => ?_⟩
      obtain ⟨u, g1, g2, g3⟩ := h3 i (by rw [← f2, ← e5]; exact hi) j (by rw [← f3, ← e4]; exact hj)
      refine ⟨u, by rw [e4, f3]; exact g1, g2, ?_⟩
      have := e6 i (by rw [← e5]; exact hi) j (by rw [← e4]; exact hj)
      rw [f4] at this
      exact (this ρ I w u h.fr.m g3).of0
  · obtain ⟨r, e1, e2⟩ := gs l q hq
    obtain ⟨r', f1, f2⟩ := gs l' q' hq'
    exact hf.fr.m.apart l l' r r' hne e1 f1 (by rw [← e2]; exact h1) (by rw [← f2]; exact h2)
  · obtain ⟨r, e1, e2⟩ := gs l q hq
    exact hf.fr.m.mine l r e1 (by rw [← e2]; exact ho)
  · obtain ⟨r, e1, e2⟩ := gs l q hq
    exact hf.fr.m.imm l r e1 (by rw [← e2]; exact ho)
  · obtain ⟨r, e1, e2⟩ := hget l q hq
    rcases e2 with rfl | ⟨e2, e3, _⟩
    · have := hf.fr.m.side l r e1 hmp
      rw [frzL_length] at this
      rw [hlen2]
      exact this
    · rw [e3] at hmp; rw [hmp] at e2; exact e2.elim
  · obtain ⟨r, e1, e2⟩ := gs l q hq
    obtain ⟨r', f1, f2⟩ := gs l' q' hq'
    exact hf.fr.m.sap l l' r r' hne e1 f1 (by rw [← e2]; exact h1) (by rw [← f2]; exact h2)
  · obtain ⟨r, e1, e2⟩ := gs l q hq
    exact hf.fr.own l r e1 (by rw [← e2]; exact ho) hlt
  · obtain ⟨r, e1, e2⟩ := gs l q hq
    exact hf.fr.fresh l r e1 (by rw [← e2]; exact ho) hk
  · obtain ⟨r, e1, e2⟩ := gs l q hq
    exact hf.fr.sfresh l r e1 (by rw [← e2]; exact ho) hk
  · rw [hlen2]
    exact tmF_slot h.fr.m h.slot hs' tm ht t
theorem RowsF.set {mem : List Row} {L : List Nat} {r' : Row} : ∀ {m : List Row} {b : Nat} {r : Row}, m[b]? = some r → (r.s.live ∧ r'.s = r.s ∧ r'.sz = r.sz ∧ r'.n = r.n ∧ ∀ i, i < r.n → ∀ j, j < r.sz → ArgOk mem L (r.f i j) (r'.f i j)) → RowsF mem L m (m.set b r')
  | [], _, _, h, _ => by simp at h
  | x :: m, 0, r, h, hc => by
    simp only [List.getElem?_cons_zero, Option.some.injEq] at h
    subst h
    refine ⟨.inr hc, ?_⟩
    have : ∀ m : List Row, RowsF mem L m m := by
      intro m
      induction m with
      | nil => trivial
      | cons x m ih => exact ⟨.inl rfl, ih⟩
    exact this m
  | x :: m, b + 1, r, h, hc => ⟨.inl rfl, RowsF.set (by simpa using h) hc⟩
theorem can_frzb (L : List Nat) (b : Nat) (f' : Nat → Nat → PV) {one : Bool} {n sz : Nat} {f : Nat → Nat → PV} {tm : List (Nat × PV)} {m rows : List Row} (hL : ∀ l, l ∈ L → Γ.k0 ≤ l) (hm0 : frzK L st.mem 0 some = some m) (hb : rowAt m b = some ⟨.own, one, n, sz, f⟩) (hset : setM m b ⟨.own, one, n, sz, f'⟩ some = some rows) (hc : ∀ i, i < n → ∀ j, j < sz → ArgOk st.mem L (f i j) (f' i j)) (ht : TmF st L tm) : Can N Γ st ⟨tm, rows⟩ := by
  have e : rows = m.set b ⟨.own, one, n, sz, f'⟩ := by rw [setM_eq] at hset; exact (Option.some.inj hset).symm
  subst e
  rw [rowAt_get] at hb
  exact can_frzm L hL hm0 ht (RowsF.set hb ⟨trivial, rfl, rfl, rfl, hc⟩)
end
end Go.Proofs.YtcefhgomkehokaaGreat
namespace Go.Proofs.YtcefhgomkehokaaGreat
open Go.MapKept
/-! ### a map becomes a value -/
def VM (l : Nat) (c : PV) (p q : PV) : Prop := ∀ (k : Nat) (ρ : Nat → Loc) (I I' : Nat → Prop) (w : World) (v : Value), (∀ b, I b → I' b) → (∀ u, VRel k ρ I w (.mref l) u → VRel 0 ρ I' w (.vmap c) u) → VRel k ρ I w p v → VRel k ρ I' w q v
theorem VM.refl {l : Nat} {c p : PV} : VM l c p p := fun k ρ I I' w v hI _ h => h.up (Nat.le_refl _) (fun _ _ => rfl) hI (Tr.refl _ _)
theorem VM.ref {l : Nat} {c : PV} : VM l c (.mref l) (.vmap c) := fun k ρ I I' w v hI hu h => (hu v h).of0
theorem VM.agg {l n : Nat} {c : PV} {f g : Nat → PV} (h : ∀ i, i < n → VM l c (f i) (g i)) : VM l c (.agg n f) (.agg n g) := fun k ρ I I' w v hI hu ⟨vs, h1, h2, h3⟩ => ⟨vs, h1, h2, fun i hi => ⟨(h3 i hi).1, h i hi k ρ I I' w _ hI hu (h3 i hi).2⟩⟩
def TmV (st : PSt) (l : Nat) (c : PV) : List (Nat × PV) → Prop
  | [] => True
  | (t, q) :: r => VM l c (st.get t) q ∧ TmV st l c r
def RowsV (l : Nat) (c : PV) : List Row → List Row → Prop
  | [], [] => True
  | r :: rs, q :: qs => (r = q ∨ (r.s.live ∧ q.s = r.s ∧ q.sz = r.sz ∧ q.n = r.n ∧ ∀ i, i < r.n → ∀ j, j < r.sz → VM l c (r.f i j) (q.f i j))) ∧ RowsV l c rs qs
  | _, _ => False
theorem RowsV.get {l : Nat} {c : PV} : ∀ {rs qs : List Row}, RowsV l c rs qs → rs.length = qs.length ∧ ∀ (x : Nat) (q : Row), qs[x]? = some q → ∃ r, rs[x]? = some r ∧ (r = q ∨ (r.s.live ∧ q.s = r.s ∧ q.sz = r.sz ∧ q.n = r.n ∧ ∀ i, i < r.n → ∀ j, j < r.sz → VM l c (r.f i j) (q.f i j)))
  | [], [], _ => ⟨rfl, fun x q h => by simp at h⟩
  | r :: rs, q :: qs, h => by
    obtain ⟨h1, h2⟩ := RowsV.get h.2
    refine ⟨by simp [h1], fun x y hx => ?_⟩
    cases x with
    | zero =>
      simp only [List.getElem?_cons_zero, Option.some.injEq] at hx
      subst hx
      exact ⟨r, rfl, h.1⟩
    | succ x => exact h2 x y (by simpa using hx)
  | [], _ :: _, h => h.elim
  | _ :: _, [], h => h.elim
def deadR : Row := ⟨.dead, false, 0, 0, fun _ _ => .junk⟩
section
variable {N : Nat} {Γ : Fr} {st : PSt}
theorem can_vmap (l : Nat) {one : Bool} {n : Nat} {f : Nat → Nat → PV} {tm : List (Nat × PV)} {rows : List Row} (hk : Γ.k0 ≤ l) (hr : rowAt st.mem l = some ⟨.mp, one, n + 1, 1, f⟩) (hc : Cl (f 0 0)) (ht : TmV st l (f 0 0) tm) (hrows : RowsV l (f 0 0) (st.mem.set l deadR) rows) : Can N Γ st ⟨tm, rows⟩ := fun ρ I a w h => by
  rw [rowAt_get] at hr
  obtain ⟨hlen, hget⟩ := hrows.get
  have hlen2 : rows.length = st.mem.length := by rw [← hlen]; simp
  obtain ⟨hnI, hside⟩ := h.fr.m.side l _ hr rfl
  obtain ⟨es, clock, q1, q2, q3⟩ := (hside.2 (Nat.succ_pos _)).1 rfl
  have hI : ∀ b, I b → (I b ∨ b = (ρ l).b) := fun b hb => .inl hb
  have hu : ∀ u, VRel st.mem.length ρ I w (.mref l) u → VRel 0 ρ (fun b => I b ∨ b = (ρ l).b) w (.vmap (f 0 0)) u := fun u hu =>
    ⟨(ρ l).b, es, clock, hu.2, .inr rfl, q1, q2, (VRel.close _ _ 0 _ hc q3).up (Nat.le_refl _) (fun _ _ => rfl) hI (Tr.refl _ _)⟩
  have get : ∀ (x : Nat) (q : Row), rows[x]? = some q → (q.s = .dead) ∨ ∃ r, x ≠ l ∧ st.mem[x]? = some r ∧ q.s = r.s ∧ (r = q ∨ (r.s.live ∧ q.s = r.s ∧ q.sz = r.sz ∧ q.n = r.n ∧ ∀ i, i < r.n → ∀ j, j < r.sz → VM l (f 0 0) (r.f i j) (q.f i j))) := fun x q hq => by
    obtain ⟨r, e1, e2⟩ := hget x q hq
    by_cases hx : x = l
    · subst hx
      rw [List.getElem?_set_self (lt_get hr)] at e1
      simp only [Option.some.injEq] at e1
      subst e1
      left
      rcases e2 with rfl | ⟨e2, _⟩
      · rfl
      · exact e2.elim
    · rw [List.getElem?_set_ne (fun e => hx e.symm)] at e1
      refine .inr ⟨r, hx, e1, ?_, e2⟩
      rcases e2 with rfl | ⟨_, e3, _⟩
      · rfl
      · exact e3
  have up : ∀ {p : PV} {v : Value}, VRel st.mem.length ρ I w p v → VRel rows.length ρ (fun b => I b ∨ b = (ρ l).b) w p v := fun hv => by
    rw [hlen2]; exact hv.up (Nat.le_refl _) (fun _ _ => rfl) hI (Tr.refl _ _)
  have vm : ∀ {p q : PV} {v : Value}, VM l (f 0 0) p q → VRel st.mem.length ρ I w p v → VRel rows.length ρ (fun b => I b ∨ b = (ρ l).b) w q v := fun hp hv => by
    rw [hlen2]; exact hp _ _ _ _ _ _ hI hu hv
  have nd : ∀ {s : RS}, s.live → s ≠ .dead := fun hs e => by rw [e] at hs; exact hs
  have no : ∀ {s : RS}, s.isOwn → s ≠ .dead := fun hs e => by rw [e] at hs; exact hs
  refine ⟨ρ, fun b => I b ∨ b = (ρ l).b, ⟨⟨fun x q hq hs => ?_, fun x x' q q' hne hq hq' hs hs' => ?_, fun x q hq hs => ?_, fun x q hq hs => ?_, fun b hb => ?_, fun x q hq hs => ?_, fun x x' q q' hne hq hq' hs hs' => ?_⟩, h.fr.os, h.fr.tape, h.fr.output, h.fr.size, h.fr.block, h.fr.shape, fun b hb hlt => ?_, fun b hb => .inl (h.fr.new b hb), fun x q hq hs hlt => ?_, fun x q hq hs hx => ?_, by rw [hlen2]; exact h.fr.k0, h.fr.ρ0, fun x q hq hs hx => ?_, h.fr.gl.sub hI⟩, h.defers, h.size, fun t => ?_⟩
  · rcases get x q hq with e | ⟨r, hx, e1, e2, e3⟩
    · exact absurd e (nd hs)
    · obtain ⟨g1, cs, T, g2, g3⟩ := h.fr.m.row x r e1 (by rw [← e2]; exact hs)
      rcases e3 with rfl | ⟨_, _, f1, f2, f3⟩
      · exact ⟨g1, cs, T, g2, fun i hi j hj => by obtain ⟨u, k1, k2, k3⟩ := g3 i hi j hj; exact ⟨u, k1, k2, up k3⟩⟩
      · rw [f1, f2]
        exact ⟨g1, cs, T, g2, fun i hi j hj => by obtain ⟨u, k1, k2, k3⟩ := g3 i hi j hj; exact ⟨u, k1, k2, vm (f3 i hi j hj) k3⟩⟩
  · rcases get x q hq with e | ⟨r, hx, e1, e2, _⟩
    · exact absurd e (nd hs)
    rcases get x' q' hq' with e | ⟨r', hx', e1', e2', _⟩
    · exact absurd e (nd hs')
    · exact h.fr.m.apart x x' r r' hne e1 e1' (by rw [← e2]; exact hs) (by rw [← e2']; exact hs')
  · rcases get x q hq with e | ⟨r, hx, e1, e2, _⟩
    · exact absurd e (no hs)
    · rw [e2] at hs
      rintro (hb | hb)
      · exact h.fr.m.mine x r e1 hs hb
      · obtain ⟨_, cs, T, g2, _⟩ := h.fr.m.row x r e1 (RS.live_of_own hs)
        rw [hb, q1] at g2; cases g2
  · rcases get x q hq with e | ⟨r, hx, e1, e2, _⟩
    · rw [hs] at e; cases e
    · exact .inl (h.fr.m.imm x r e1 (by rw [← e2]; exact hs))
  · rcases hb with hb | rfl
    · exact h.fr.m.lt b hb
    · exact hside.lt
  · rcases get x q hq with e | ⟨r, hx, e1, e2, e3⟩
    · rw [hs] at e; cases e
    · have hrs : r.s = .mp := by rw [← e2]; exact hs
      obtain ⟨g1, g2⟩ := h.fr.m.side x r e1 hrs
      have hqr : r = q := by
        rcases e3 with e | ⟨e, _⟩
        · exact e
        · rw [hrs] at e; exact e.elim
      subst hqr
      refine ⟨?_, g2.up (Nat.le_refl _) rfl (.refl _) fun i hi j hj v hv => up hv⟩
      rintro (hb | hb)
      · exact g1 hb
      · exact h.fr.m.sap x l r _ hx e1 hr hrs rfl hb
  · rcases get x q hq with e | ⟨r, hx, e1, e2, _⟩
    · rw [hs] at e; cases e
    rcases get x' q' hq' with e | ⟨r', hx', e1', e2', _⟩
    · rw [hs'] at e; cases e
    · exact h.fr.m.sap x x' r r' hne e1 e1' (by rw [← e2]; exact hs) (by rw [← e2']; exact hs')
  · rcases hb with hb | rfl
    · exact h.fr.old b hb hlt
    · have := h.fr.sfresh l _ hr rfl hk; omega
  · rcases get x q hq with e | ⟨r, hx, e1, e2, _⟩
    · exact absurd e (no hs)
    · exact h.fr.own x r e1 (by rw [← e2]; exact hs) hlt
  · rcases get x q hq with e | ⟨r, hxl, e1, e2, _⟩
    · exact absurd e (no hs)
    · exact h.fr.fresh x r e1 (by rw [← e2]; exact hs) hx
  · rcases get x q hq with e | ⟨r, hxl, e1, e2, _⟩
    · rw [hs] at e; cases e
    · exact h.fr.sfresh x r e1 (by rw [← e2]; exact hs) hx
  · have : ∀ (tm : List (Nat × PV)), TmV st l (f 0 0) tm → VRel rows.length ρ (fun b => I b ∨ b = (ρ l).b) w (look t tm) (a.tmps.getD t undef) := by
      intro tm
      induction tm with
      | nil => intro _; trivial
      | cons y tm ih =>
        obtain ⟨s, q⟩ := y
        intro hh
        simp only [look]
        cases hb : Nat.beq t s
        · exact ih hh.2
        · rw [Nat.eq_of_beq_eq_true hb]
          exact vm hh.1 (h.slot s)
    exact this tm ht
end
/-! ### a map handed to a function of values for the time of a call -/
def ASetM (ρ : Nat → Loc) (I : Nat → Prop) (mem : List Row) (L M : List Nat) (b : Nat) : Prop := ASet ρ I mem L b ∨ ∃ l r, l ∈ M ∧ mem[l]? = some r ∧ r.s = .mp ∧ b = (ρ l).b
def ArgM (mem : List Row) (L M : List Nat) (p q : PV) : Prop :=
  ∀ (ρ : Nat → Loc) (I : Nat → Prop) (w : World) (v : Value), MRel ρ I w mem → VRel mem.length ρ I w p v → VRel 0 ρ (ASetM ρ I mem L M) w q v
def ArgsM (mem : List Row) (L M : List Nat) : List PV → List PV → Prop
  | [], [] => True
  | p :: ps, q :: qs => ArgM mem L M p q ∧ ArgsM mem L M ps qs
  | _, _ => False
section
variable {mem : List Row} {L M : List Nat}
theorem argM {p q : PV} (h : ArgOk mem L p q) : ArgM mem L M p q := fun ρ I w v hm hv => (h ρ I w v hm hv).up (Nat.le_refl _) (fun _ _ => rfl) (fun b hb => .inl hb) (Tr.refl _ _)
theorem argM_ref {l n : Nat} {one : Bool} {f : Nat → Nat → PV} (hr : rowAt mem l = some ⟨.mp, one, n + 1, 1, f⟩) (hL : l ∈ M) (hc : Cl (f 0 0)) : ArgM mem L M (.mref l) (.vmap (f 0 0)) := fun ρ I w v hm hv => by
  rw [rowAt_get] at hr
  obtain ⟨hnI, hside⟩ := hm.side l _ hr rfl
  obtain ⟨es, clock, q1, q2, q3⟩ := (hside.2 (Nat.succ_pos _)).1 rfl
  exact ⟨(ρ l).b, es, clock, hv.2, .inr ⟨l, _, hL, hr, rfl, rfl⟩, q1, q2, (VRel.close _ _ 0 _ hc q3).up (Nat.le_refl _) (fun _ _ => rfl) (fun b hb => .inl (.inl hb)) (Tr.refl _ _)⟩
theorem argM_ptr {l n sz i j : Nat} {r : Row} {f : Nat → Nat → PV} (hr : rowAt mem l = some r) (hs : r.s.live) (hL : l ∈ L) (hn : n ≤ r.n) (hsz : sz = r.sz) (hc : ∀ a, a < n → ∀ b, b < sz → ArgM mem L M (r.f a b) (f a b)) : ArgM mem L M (.ptr l i j) (.vptr n sz f i j) := by
  rintro ρ I w v hm ⟨hl, rfl⟩
  rw [rowAt_get] at hr
  obtain ⟨h1, cs, T, hc1, hc2⟩ := hm.row l r hr hs
  refine ⟨(ρ l).b, (ρ l).o, by rw [h1, hsz], .inl (.inr ⟨l, r, hL, hr, hs, rfl⟩), fun a ha b hb => ?_⟩
  obtain ⟨u, g1, g2, g3⟩ := hc2 a (by omega) b (by omega)
  exact ⟨u, by simp only [World.cell?, hc1, hsz]; exact g1, g2, hc a ha b hb ρ I w u hm g3⟩
theorem argM_clo {f : FuncId} {n : Nat} {c c' : Nat → PV} (h : ∀ i, i < n → ArgM mem L M (c i) (c' i)) : ArgM mem L M (.clo f n c) (.clo f n c') := by
  rintro ρ I w v hm ⟨vs, h1, h2, h3⟩
  exact ⟨vs, h1, h2, fun i hi => h i hi ρ I w _ hm (h3 i hi)⟩
end
section
variable {G : Pg} {N : Nat} {Γ : Fr} {st : PSt} {K : Exit → PSt → Prop} {ops : Array Oper} {o : Oper} {rest : List Oper} {d : Nat}
theorem argsM_sound {ρ : Nat → Loc} {I : Nat → Prop} {w : World} (hm : MRel ρ I w st.mem) {L M : List Nat} : ∀ (ps qs : List PV) (vs : List Value), ArgsM st.mem L M ps qs → (∀ i, i < ps.length → VRel st.mem.length ρ I w (nthP ps i) (vs.getD i undef)) → vs.length = ps.length → ARel ρ (ASetM ρ I st.mem L M) w qs vs
  | [], [], vs, _, _, hl => by
    have : vs = [] := by simpa using hl
    subst this; trivial
  | p :: ps, q :: qs, [], _, _, hl => by simp at hl
  | p :: ps, q :: qs, v :: vs, h, hv, hl => by
    refine ⟨h.1 ρ I w v hm (by simpa [nthP] using hv 0 (by simp)), argsM_sound hm ps qs vs h.2 (fun i hi => by simpa [nthP] using hv (i + 1) (by simpa using hi)) (by simpa using hl)⟩
  | [], _ :: _, _, h, _, _ => h.elim
  | _ :: _, [], _, h, _, _ => h.elim
theorem pop_callM {f : FuncId} {x : Operand} {args : Array Operand} {tys : Array TypeId} {c : Nat → PV} {qs : List PV} {post : PV → Prop} (L M : List Nat) (hg : o.guard = none) (hd : o.dst = some d) (hN : Nat.blt d N = true) (ho : o.op = .call ⟨.value x, args, tys⟩) (hx : st.ev x = .clo f 0 c)
    (hc : PureC G.P f qs post) (ha : ArgsM st.mem L M (args.toList.map st.ev) qs) (h : ∀ r, post r → Sc r ∧ POps G N Γ ops rest (st.put d r) K) : POps G N Γ ops (o :: rest) st K := .mk fun ρ I a w hrel => by
  have hw : Region.wanted o (yielded ops a.tmps) = true := by simp [Region.wanted, hg]
  simp only [wpList, hw, if_true]
  refine .inl ?_
  have hxe := ev_rel hrel x
  rw [hx] at hxe
  obtain ⟨cap, e1, e2, _⟩ := hxe
  have e3 : cap = #[] := by simpa using e2
  subst e3
  simp only [Oper.wp, call_run hc.1 ho e1, Oper.upon_enter]
  have hA := argsM_sound hrel.fr.m _ qs (args.toList.map a.eval) ha (fun i hi => evs_rel hrel args.toList i hi) (by simp)
  have hcall := hc.2 ρ (ASetM ρ I st.mem L M) w (args.toList.map a.eval) (fun b hb => by
    rcases hb with (hb | ⟨l, r, _, hr, hs, rfl⟩) | ⟨l, r, _, hr, hs, rfl⟩
    · exact hrel.fr.m.lt b hb
    · obtain ⟨h1, cs, T, h2, h3⟩ := hrel.fr.m.row l r hr hs
      by_cases hb : (ρ l).b < w.heap.size
      · exact hb
      · rw [Array.getElem?_eq_none (by omega)] at h2; cases h2
    · exact (hrel.fr.m.side l r hr hs).2.lt) (hrel.fr.gl.sub fun b hb => .inl (.inl hb)) hA
  have eargs : (args.map a.eval ++ #[]) = (args.toList.map a.eval).toArray := by apply Array.ext'; simp
  rw [eargs]
  refine hcall.mono ?_
  rintro e w' ⟨v, r, rfl, hpost, hext, hv⟩
  obtain ⟨hsc, hk⟩ := h r hpost
  simp only [hd]
  have hrel' := hrel.ext hext (I' := I) (fun _ h => h) (fun _ h => .inl h)
  exact hk.go ρ I _ w' (hrel'.put (by rwa [Nat.blt_eq] at hN) (Sc.rel r 0 _ v hsc hv))
end
/-! ### reading a map that is a value -/
section
variable {G : Pg} {N : Nat} {Γ : Fr} {st : PSt} {K : Exit → PSt → Prop} {ops : Array Oper} {o : Oper} {rest : List Oper} {d l : Nat} {x y z : Operand} {t : TypeId} {KT : Type} [DecidableEq KT] {kv : KT → Value} {m : List (KT × Int)}
theorem pop_lookvB (M : MapTB G.P t kv) (ok : Bool) (kk : KT) (hg : o.guard = none) (hd : o.dst = some d) (hN : Nat.blt d N = true) (ho : o.op = .lookup t x y ok) (hx : st.ev x = .vmap (.val (mVB kv m))) (hy : st.ev y = .val (kv kk))
    (h : POps G N Γ ops rest (st.put d (bif ok then .tup 2 (nthP [.val (bV ((mget m kk).getD 0)), vb (mget m kk).isSome]) else .val (bV ((mget m kk).getD 0)))) K) : POps G N Γ ops (o :: rest) st K := .mk fun ρ I a w hrel => by
  have hw : Region.wanted o (yielded ops a.tmps) = true := by simp [Region.wanted, hg]
  simp only [wpList, hw, if_true]
  refine .inl ?_
  have hxv := ev_rel hrel x
  rw [hx] at hxv
  obtain ⟨b, es, clock, hxv, _, q1, q2, q3⟩ := hxv
  have hyv := ev_rel hrel y
  rw [hy] at hyv
  have hyv : a.eval y = kv kk := hyv
  have hv : (execOp a.eval o).run G.P w = .ok (.value (if ok then .tuple #[bV ((mget m kk).getD 0), .bool (mget m kk).isSome] else bV ((mget m kk).getD 0))) w := by
    unfold execOp
    rw [ho]
    simp only [hxv, hyv, Sem.run_bind, run_lookB M q1 (mapV_eqB q3) q2 kk ok, Result.andThen, Sem.run_pure]
  simp only [Oper.wp, hv, Oper.upon_value, hd]
  refine h.go ρ I _ w (hrel.put (by rwa [Nat.blt_eq] at hN) ?_)
  cases ok
  · exact rfl
  · refine ⟨_, rfl, rfl, fun i hi => ?_⟩
    rcases i with _ | _ | i
    · exact rfl
    · exact rfl
    · omega
end
/-! ### maps whose values are slices of numbers -/
abbrev sV (x : List Int) : PV := .vsl x.length 1 (tI (lF 0 x))
def cS (L : List (Int × List Int)) : PV := .tup L.length fun i => .tup 2 (nthP [.val (kI (L.getD i (0, [])).1), sV (L.getD i (0, [])).2])
def sRow (L : List (Int × List Int)) : Row := ⟨.mp, false, 1, 1, fun _ _ => cS L⟩
theorem cS_cl (L : List (Int × List Int)) : Cl (cS L) := fun i _ => clT ⟨trivial, trivial, trivial⟩
theorem s_cl (L : List (Int × List Int)) : rowCl (sRow L) := fun _ _ _ _ => cS_cl L
def sget (L : List (Int × List Int)) (k : Int) : List Int := match L.find? fun e => decide (e.1 = k) with
  | some e => e.2
  | none => []
theorem sget_none {L : List (Int × List Int)} {k : Int} (h : ∀ e, e ∈ L → e.1 ≠ k) : sget L k = [] := by
  have : (L.find? fun e => decide (e.1 = k)) = none := by
    rw [List.find?_eq_none]
    intro e he
    simpa using h e he
  unfold sget; rw [this]
structure MapTS (P : Program) (t : TypeId) where
  kt : TypeId
  et : TypeId
  d : TypeDesc
  ht : P.underlying t = some (.map kt et)
  hk : P.underlying kt = some d
  key : ∀ a, IsKey d (kI a)
  zero : ∀ w, (zeroValue et).run P w = .ok (.slice none 0 0) w
section
variable {P : Program} {t : TypeId} (M : MapTS P t) {es : Array MapEntry} {clock : Nat} {L : List (Int × List Int)} {w : World} {b k0 : Nat} {ρ : Nat → Loc} {I : Nat → Prop}
theorem cS_get (h : VRel k0 ρ I w (cS L) (mapV es)) : es.size = L.length ∧ ∀ (i : Nat) (e : MapEntry), es.toList[i]? = some e → e.key = kI (L.getD i (0, [])).1 ∧ VRel k0 ρ I w (sV (L.getD i (0, [])).2) e.val := by
  obtain ⟨vs, h1, h2, h3⟩ := h
  unfold mapV at h1
  injection h1 with h1
  have hs : es.size = L.length := by rw [← h2, ← h1]; simp
  refine ⟨hs, fun i e he => ?_⟩
  have hi : i < es.toList.length := by
    by_cases hh : i < es.toList.length
    · exact hh
    · rw [List.getElem?_eq_none (by omega)] at he; cases he
  have hi' : i < es.size := by simpa using hi
  have hv := h3 i (by omega)
  have he2 : es[i]? = some e := by simpa using he
  have e1 : vs.getD i undef = .tuple #[e.key, e.val] := by
    rw [← h1, Array.getD_eq_getD_getElem?, Array.getElem?_map, he2]; rfl
  rw [e1] at hv
  obtain ⟨us, g1, g2, g3⟩ := hv
  injection g1 with g1
  have k1 := g3 0 (by omega)
  have k2 := g3 1 (by omega)
  rw [← g1] at k1 k2
  exact ⟨k1, k2⟩
theorem cS_keys (h : VRel k0 ρ I w (cS L) (mapV es)) : es.toList.map (·.key) = L.map fun e => kI e.1 := by
  obtain ⟨hs, hg⟩ := cS_get h
  apply List.ext_getElem?
  intro i
  rw [List.getElem?_map, List.getElem?_map]
  by_cases hi : i < L.length
  · have hlt : i < es.toList.length := by rw [Array.length_toList]; omega
    have he : es.toList[i]? = some (es.toList[i]'hlt) := List.getElem?_eq_getElem hlt
    rw [he, List.getElem?_eq_getElem hi]
    have := (hg i _ he).1
    rw [List.getD_eq_getElem?_getD, List.getElem?_eq_getElem hi] at this
    simp only [Option.map_some]
    exact congrArg some this
  · rw [List.getElem?_eq_none (by simp; omega), List.getElem?_eq_none (by omega)]; rfl
theorem cS_nodup (h : VRel k0 ρ I w (cS L) (mapV es)) (hs : Stamped es clock) : (L.map (·.1)).Nodup := by
  have h1 := hs.2.2
  rw [cS_keys h] at h1
  have : (L.map fun e => kI e.1) = (L.map (·.1)).map kI := by rw [List.map_map]; rfl
  rw [this] at h1
  exact List.Pairwise.of_map kI (fun a b hne he => hne (by rw [he])) h1
theorem sget_at {L : List (Int × List Int)} {k : Int} : ∀ {j : Nat}, (L.map (·.1)).Nodup → j < L.length → (L.getD j (0, [])).1 = k → sget L k = (L.getD j (0, [])).2 := by
  intro j hn hj hk
  unfold sget
  have : L.find? (fun e => decide (e.1 = k)) = some (L.getD j (0, [])) := by
    induction L generalizing j with
    | nil => simp at hj
    | cons e L ih =>
      cases j with
      | zero =>
        have hk : e.1 = k := hk
        rw [List.find?_cons_of_pos (by simpa using hk)]; rfl
      | succ j =>
        have hj : j < L.length := by simpa using hj
        have hk : (L.getD j (0, [])).1 = k := hk
        simp only [List.map_cons, List.nodup_cons] at hn
        have hne : e.1 ≠ k := fun he => hn.1 (by
          rw [he, ← hk]
          rw [List.getD_eq_getElem?_getD, List.getElem?_eq_getElem hj]
          exact List.mem_map.2 ⟨_, List.getElem_mem hj, rfl⟩)
        rw [List.find?_cons_of_neg (by simpa using hne)]
        exact ih hn.2 hj hk
  rw [this]
include M
theorem cS_isKey (h : VRel k0 ρ I w (cS L) (mapV es)) : ∀ x ∈ es.toList, IsKey M.d x.key := fun x hx => by
  have : x.key ∈ es.toList.map (·.key) := List.mem_map.2 ⟨x, hx, rfl⟩
  rw [cS_keys h] at this
  obtain ⟨e, _, he⟩ := List.mem_map.1 this
  rw [← he]; exact M.key _
theorem run_lookS (hb : w.heap[b]? = some (.map es clock)) (h : VRel k0 ρ I w (cS L) (mapV es)) (hs : Stamped es clock) (k : Int) :
    ∃ v, (Instr.lookup t (.map (some b)) (kI k) false).run P w = .ok v w ∧ VRel k0 ρ I w (sV (sget L k)) v := by
  have hc := fun em => run_checkKey (P := P) (w := w) M.hk (M.key k) em 9999
  rcases findNow_spec (M.key k) es.toList 0 (cS_isKey M h) with ⟨h1, h2⟩ | ⟨j, e, h1, h2, h3⟩
  · refine ⟨.slice none 0 0, by simp [Instr.lookup, run_underlying M.ht, MapKept.run_getObj_map hb, hc, run_findKey M.hk h1, M.zero, Result.andThen], ?_⟩
    rw [sget_none fun e he hk => ?_]
    · exact ⟨none, 0, rfl, Nat.le_refl _, .inl rfl⟩
    · have : kI e.1 ∈ L.map fun e => kI e.1 := List.mem_map.2 ⟨e, he, rfl⟩
      rw [← cS_keys h] at this
      obtain ⟨x, hx, hxe⟩ := List.mem_map.1 this
      exact h2 x hx (by rw [hxe, hk])
  · obtain ⟨hsz, hg⟩ := cS_get h
    obtain ⟨g1, g2⟩ := hg j e h2
    have hj : j < L.length := by
      have : j < es.toList.length := by
        by_cases hh : j < es.toList.length
        · exact hh
        · rw [List.getElem?_eq_none (by omega)] at h2; cases h2
      have : j < es.size := by simpa using this
      omega
    refine ⟨e.val, by simp [Instr.lookup, run_underlying M.ht, MapKept.run_getObj_map hb, hc, run_findKey M.hk h1, M.zero, Result.andThen], ?_⟩
    rw [sget_at (cS_nodup h hs) hj (kI_inj _ _ (by rw [← g1, h3]))]
    exact g2
end
section
variable {G : Pg} {N : Nat} {Γ : Fr} {st : PSt} {K : Exit → PSt → Prop} {ops : Array Oper} {o : Oper} {rest : List Oper} {d l : Nat} {x y z : Operand} {t : TypeId} {L : List (Int × List Int)}
theorem pop_lookvS (M : MapTS G.P t) (kk : Int) (hg : o.guard = none) (hd : o.dst = some d) (hN : Nat.blt d N = true) (ho : o.op = .lookup t x y false) (hx : st.ev x = .vmap (cS L)) (hy : st.ev y = vi kk)
    (h : POps G N Γ ops rest (st.put d (sV (sget L kk))) K) : POps G N Γ ops (o :: rest) st K := .mk fun ρ I a w hrel => by
  have hw : Region.wanted o (yielded ops a.tmps) = true := by simp [Region.wanted, hg]
  simp only [wpList, hw, if_true]
  refine .inl ?_
  have hxv := ev_rel hrel x
  rw [hx] at hxv
  obtain ⟨b, es, clock, hxv, _, q1, q2, q3⟩ := hxv
  have hyv := ev_rel hrel y
  rw [hy] at hyv
  have hyv : a.eval y = kI kk := hyv
  obtain ⟨v, hv, hvr⟩ := run_lookS M q1 q3 q2 kk
  have hv : (execOp a.eval o).run G.P w = .ok (.value v) w := by
    unfold execOp
    rw [ho]
    simp only [hxv, hyv, Sem.run_bind, hv, Result.andThen, Sem.run_pure]
  simp only [Oper.wp, hv, Oper.upon_value, hd]
  exact h.go ρ I _ w (hrel.put (by rwa [Nat.blt_eq] at hN) hvr.of0)
theorem pop_mkmapS (hg : o.guard = none) (hd : o.dst = some d) (hN : Nat.blt d N = true) (ho : o.op = .makeMap t none) {k : Nat} {m' : List Row} (hm : snocM st.mem (sRow []) 0 (fun k m => some (k, m)) = some (k, m')) (h : POps G N Γ ops rest (PSt.put ⟨st.tm, m'⟩ d (.mref k)) K) : POps G N Γ ops (o :: rest) st K := .mk fun ρ I a w hrel => by
  have hw : Region.wanted o (yielded ops a.tmps) = true := by simp [Region.wanted, hg]
  simp only [wpList, hw, if_true]
  refine .inl ?_
  have hv : (execOp a.eval o).run G.P w = .ok (.value (.map (some w.heap.size))) (w.alloc (.map #[] 0)) := by
    unfold execOp
    rw [ho]
    rfl
  rw [snocM_eq] at hm
  simp only [Option.some.injEq, Prod.mk.injEq, Nat.zero_add] at hm
  obtain ⟨rfl, rfl⟩ := hm
  simp only [Oper.wp, hv, Oper.upon_value, hd]
  have hr := hrel.newMap (sRow []) rfl (.map #[] 0) (fun _ _ _ e => by cases e) (fun k' ρ' w' _ hb _ _ _ => ⟨⟨_, hb, fun _ _ _ e => by cases e⟩, fun _ => ⟨fun _ => ⟨#[], 0, hb, stamped_empty 0, (⟨#[], by unfold mapV; simp, rfl, fun i hi => absurd hi (Nat.not_lt_zero i)⟩ : VRel _ _ _ _ (cS []) (mapV #[]))⟩, fun hz => by cases hz⟩⟩)
  refine h.go _ I _ _ (hr.put (by rwa [Nat.blt_eq] at hN) ⟨by simp, ?_⟩)
  simp [addLoc]
theorem pop_msetS (M : MapTS G.P t) (kk : Int) (v : List Int) (hnew : ∀ e, e ∈ L → e.1 ≠ kk) (hg : o.guard = none) (hd : o.dst = none) (ho : o.op = .mapUpdate t x y z) (hx : st.ev x = .mref l) (hy : st.ev y = vi kk) (hz : st.ev z = sV v) (hr : rowAt st.mem l = some (sRow L)) (hk : Γ.k0 ≤ l) (hni : noIt st.mem = true) {m' : List Row}
    (hm : setM st.mem l (sRow (L ++ [(kk, v)])) some = some m') (h : POps G N Γ ops rest ⟨st.tm, m'⟩ K) : POps G N Γ ops (o :: rest) st K := .mk fun ρ I a w hrel => by
  have hw : Region.wanted o (yielded ops a.tmps) = true := by simp [Region.wanted, hg]
  simp only [wpList, hw, if_true]
  refine .inl ?_
  rw [rowAt_get] at hr
  rw [setM_eq] at hm
  simp only [Option.some.injEq] at hm
  subst hm
  have hxv := ev_rel hrel x
  rw [hx] at hxv
  obtain ⟨_, hxv⟩ := hxv
  have hyv := ev_rel hrel y
  rw [hy] at hyv
  have hyv : a.eval y = kI kk := hyv
  have hzv := ev_rel hrel z
  rw [hz] at hzv
  obtain ⟨_, _, hs⟩ := hrel.fr.m.side l _ hr rfl
  obtain ⟨es, clock, q1, q2, q3⟩ := (hs Nat.zero_lt_one).1 rfl
  have q3 : VRel st.mem.length ρ I w (cS L) (mapV es) := q3
  obtain ⟨hsz, hget⟩ := cS_get q3
  have hc := fun em => run_checkKey (P := G.P) (w := w) M.hk (M.key kk) em 9999
  have hnk : ∀ x ∈ es.toList, x.key ≠ kI kk := fun x hx he => by
    have : x.key ∈ es.toList.map (·.key) := List.mem_map.2 ⟨x, hx, rfl⟩
    rw [cS_keys q3] at this
    obtain ⟨e, he1, he2⟩ := List.mem_map.1 this
    exact hnew e he1 (kI_inj _ _ (he2.trans he))
  have h1 : Instr.findNow M.d (kI kk) es.toList 0 = some none := by
    rcases findNow_spec (M.key kk) es.toList 0 (cS_isKey M q3) with ⟨h1, h2⟩ | ⟨j, e, h1, h2, h3⟩
    · exact h1
    · exact absurd h3 (hnk e (List.mem_of_getElem? h2))
  have hv : (execOp a.eval o).run G.P w = .ok .skip { w with heap := w.heap.setIfInBounds (ρ l).b (.map (es.push ⟨kI kk, a.eval z, clock⟩) (clock + 1)) } := by
    unfold execOp
    rw [ho]
    simp [hxv, hyv, Instr.mapUpdate, run_underlying M.ht, MapKept.run_getObj_map q1, hc, run_findKey M.hk h1, MapKept.run_setObj_map _ q1, Result.andThen]
  simp only [Oper.wp, hv, Oper.upon_skip, hd, Act.put]
  refine h.go ρ I _ _ (hrel.setMapV hr rfl hk hni (sRow (L ++ [(kk, v)])) rfl rfl (stamped_push q2 hnk) fun w' ht => ?_)
  have hlen2 : (st.mem.set l (sRow (L ++ [(kk, v)]))).length = st.mem.length := by simp
  rw [hlen2]
  refine ⟨_, rfl, by simp [hsz], fun i hi => ?_⟩
  have hi : i < L.length + 1 := by simpa using hi
  dsimp only
  by_cases hl2 : i < L.length
  · have hi2 : i < es.size := by omega
    have he : es.toList[i]? = some es[i] := by simp [hi2]
    obtain ⟨g1, g2⟩ := hget i _ he
    have e0 : (L ++ [(kk, v)]).getD i (0, []) = L.getD i (0, []) := by rw [List.getD_eq_getElem?_getD, List.getD_eq_getElem?_getD, List.getElem?_append_left hl2]
    rw [e0]
    have e1 : (((es.push ⟨kI kk, a.eval z, clock⟩).map fun e => Value.tuple #[e.key, e.val]).getD i undef) = .tuple #[es[i].key, es[i].val] := by
      rw [Array.getD_eq_getD_getElem?, Array.getElem?_map, Array.getElem?_push, if_neg (by omega), Array.getElem?_eq_getElem hi2]; rfl
    rw [e1]
    refine ⟨_, rfl, rfl, fun q hq => ?_⟩
    rcases q with _ | _ | q
    · exact g1
    · exact g2.up (Nat.le_refl _) (fun _ _ => rfl) (fun _ h => h) ht
    · omega
  · obtain rfl : i = L.length := by omega
    have e0 : (L ++ [(kk, v)]).getD L.length (0, []) = (kk, v) := by rw [List.getD_eq_getElem?_getD]; simp
    rw [e0]
    have e1 : (((es.push ⟨kI kk, a.eval z, clock⟩).map fun e => Value.tuple #[e.key, e.val]).getD L.length undef) = .tuple #[kI kk, a.eval z] := by
      rw [Array.getD_eq_getD_getElem?, Array.getElem?_map, Array.getElem?_push, if_pos (by omega)]; rfl
    rw [e1]
    refine ⟨_, rfl, rfl, fun q hq => ?_⟩
    rcases q with _ | _ | q
    · exact rfl
    · exact hzv.up (Nat.le_refl _) (fun _ _ => rfl) (fun _ h => h) ht
    · omega
end
end Go.Proofs.YtcefhgomkehokaaGreat
namespace Go.Proofs.YtcefhgomkehokaaGreat
def supB (l : List Df) (day : Int) (i j : Nat) : Bool := decide ((lF dD l j).kind = (lF dD l i).kind ∧ (lF dD l j).nm.toList = (lF dD l i).nm.toList ∧ (lF dD l j).day ≤ day ∧ ((lF dD l i).day < (lF dD l j).day ∨ (lF dD l j).day = (lF dD l i).day ∧ j < i))
def replB (l : List Df) (day : Int) (i : Nat) : Bool := (List.range l.length).any (supB l day i)
def isAct (l : List Df) (day : Int) (i : Nat) : Bool := decide ((lF dD l i).kind = 1 ∨ (lF dD l i).kind = 5) || (decide ((lF dD l i).day ≤ day) && !replB l day i)
def actN (l : List Df) (day : Int) (n : Nat) : List Int := ((List.range n).filter (isAct l day)).map Int.ofNat
def actL (l : List Df) (day : Int) : List Int := actN l day l.length
def comp (d : Df) : Bool := decide (d.kind = 3 ∨ d.kind = 4)
def chkE (nm : ByteArray) (l : List Df) (day : Int) : Int := if agrS nm l = false then 1 else if day < 0 ∨ 84005 < day then 2 else 0
theorem actN_y {l : List Df} {day : Int} {n : Nat} (h : isAct l day n = true) : actN l day (n + 1) = actN l day n ++ [(n : Int)] := by
  unfold actN; rw [List.range_succ, List.filter_append, List.map_append, List.filter_cons, if_pos h]; rfl
theorem actN_n {l : List Df} {day : Int} {n : Nat} (h : isAct l day n = false) : actN l day (n + 1) = actN l day n := by
  unfold actN; rw [List.range_succ, List.filter_append, List.filter_cons, if_neg (by rw [h]; decide), List.filter_nil, List.append_nil]
theorem actN_len (l : List Df) (day : Int) (n : Nat) : (actN l day n).length ≤ n := by
  unfold actN; rw [List.length_map]; exact Nat.le_trans (List.length_filter_le _ _) (by simp)
theorem actN_mem {l : List Df} {day : Int} {n : Nat} {x : Int} (h : x ∈ actN l day n) : ∃ i : Nat, x = i ∧ i < n ∧ isAct l day i = true := by
  unfold actN at h
  obtain ⟨i, hi, rfl⟩ := List.mem_map.1 h
  have := List.mem_filter.1 hi
  exact ⟨i, rfl, List.mem_range.1 this.1, this.2⟩
theorem repl_yes {l : List Df} {day : Int} {i j : Nat} (hj : j < l.length) (h : supB l day i j = true) : replB l day i = true := List.any_eq_true.2 ⟨j, List.mem_range.2 hj, h⟩
theorem repl_no {l : List Df} {day : Int} {i : Nat} (h : ∀ j, j < l.length → supB l day i j = false) : replB l day i = false := by
  unfold replB
  rw [List.any_eq_false]
  intro j hj
  rw [h j (List.mem_range.1 hj)]; decide
end Go.Proofs.YtcefhgomkehokaaGreat
namespace Go.Proofs.YtcefhgomkehokaaGreat
theorem new_c (n : Nat) (g : Nat → Int) : RowsC G.P 5 [] [.vsl n 1 (tI g)] (fun r rows => r = .ptr 0 0 0 ∧ rows = [tapeRow n g 0]) := by
  refine rows_of (G := G.toPg) (fn := Tryz.f5) Tryz.func5 rfl rfl rfl ?_; intro Γ hk
  repeat' (first | ((with_reducible (show POps _ _ _ _ (_ :: _) _ _)); (first | refine pop_read rfl rfl rfl rfl trivial ?_ | refine pop_guard rfl rfl rfl rfl rfl qgd ?_ | refine pop_new rfl rfl rfl rfl trivial ?_ | refine pop_store rfl rfl rfl Nat.zero_lt_one ?_ | refine pop_read rfl rfl rfl rfl qrd ?_ | refine pop_read2 rfl rfl rfl rfl trivial ?_ | refine pop_store rfl rfl rfl qst ?_ | fail)) | refine pnil ?_ | refine kround_exit ?_ | refine kround_ret ?_ | refine kround_next ?_ | refine kseq_normal ?_ | refine pseq ?_ | refine pregion ?_ | refine pret ?_ | refine kseq_ret ?_ | refine pskip ?_ | refine pblock ?_ | refine pexit ?_ | refine kseq_exit ?_ | refine kblock_hit rfl ?_ | refine kblock_miss rfl ?_ | refine kblock_ret ?_ | refine kblock_normal ?_ | refine kloop_ret ?_ | refine kloop_exit ?_ | refine kcut_ret ?_ | refine kcut_exit ?_ | refine pcond_t rfl ?_ | refine pcond_f rfl ?_ | (with_reducible (show POps _ _ _ _ _ _ _); simp only [List.append_eq, List.cons_append, List.nil_append]))
  exact kretr Can.refl rfl ⟨trivial, trivial⟩ rfl ⟨rfl, rfl⟩
theorem mod_c (a k : Int) (h1 : 1 ≤ k) (h2 : k ≤ 9223372036854775807) : PureC G.P 12 [vi a, vi k] (fun r => r = vi (a % k)) := by
  obtain ⟨t1, t2, t3, t4⟩ := tmod_cases a k h1
  refine pure_of (G := G.toPg) (fn := Tryz.f12) Tryz.func12 rfl rfl rfl ?_; intro Γ hk
  repeat' (first | ((with_reducible (show POps _ _ _ _ (_ :: _) _ _)); (first | refine pop_read rfl rfl rfl rfl trivial ?_ | refine pop_guard rfl rfl rfl rfl rfl qgd ?_ | refine pop_new rfl rfl rfl rfl trivial ?_ | refine pop_store rfl rfl rfl Nat.zero_lt_one ?_ | refine pop_read rfl rfl rfl rfl qrd ?_ | refine pop_read2 rfl rfl rfl rfl trivial ?_ | refine pop_store rfl rfl rfl qst ?_ | fail)) | refine pnil ?_ | refine kround_exit ?_ | refine kround_ret ?_ | refine kround_next ?_ | refine kseq_normal ?_ | refine pseq ?_ | refine pregion ?_ | refine pret ?_ | refine kseq_ret ?_ | refine pskip ?_ | refine pblock ?_ | refine pexit ?_ | refine kseq_exit ?_ | refine kblock_hit rfl ?_ | refine kblock_miss rfl ?_ | refine kblock_ret ?_ | refine kblock_normal ?_ | refine kloop_ret ?_ | refine kloop_exit ?_ | refine kcut_ret ?_ | refine kcut_exit ?_ | refine pcond_t rfl ?_ | refine pcond_f rfl ?_ | (with_reducible (show POps _ _ _ _ _ _ _); simp only [List.append_eq, List.cons_append, List.nil_append]))
  refine pcond rfl ?_ ?_ <;> intro hc
  · simp at hc
    repeat' (first | ((with_reducible (show POps _ _ _ _ (_ :: _) _ _)); (first | refine pop_read rfl rfl rfl rfl trivial ?_ | refine pop_guard rfl rfl rfl rfl rfl qgd ?_ | refine pop_new rfl rfl rfl rfl trivial ?_ | refine pop_store rfl rfl rfl Nat.zero_lt_one ?_ | refine pop_read rfl rfl rfl rfl qrd ?_ | refine pop_read2 rfl rfl rfl rfl trivial ?_ | refine pop_store rfl rfl rfl qst ?_ | fail)) | refine pnil ?_ | refine kround_exit ?_ | refine kround_ret ?_ | refine kround_next ?_ | refine kseq_normal ?_ | refine pseq ?_ | refine pregion ?_ | refine pret ?_ | refine kseq_ret ?_ | refine pskip ?_ | refine pblock ?_ | refine pexit ?_ | refine kseq_exit ?_ | refine kblock_hit rfl ?_ | refine kblock_miss rfl ?_ | refine kblock_ret ?_ | refine kblock_normal ?_ | refine kloop_ret ?_ | refine kloop_exit ?_ | refine kcut_ret ?_ | refine kcut_exit ?_ | refine pcond_t rfl ?_ | refine pcond_f rfl ?_ | (with_reducible (show POps _ _ _ _ _ _ _); simp only [List.append_eq, List.cons_append, List.nil_append]))
    exact kretv rfl ⟨trivial, trivial⟩ rfl (eqI (by rw [w64 (by omega) (by omega)]; exact t1 hc))
  · simp at hc
    repeat' (first | ((with_reducible (show POps _ _ _ _ (_ :: _) _ _)); (first | refine pop_read rfl rfl rfl rfl trivial ?_ | refine pop_guard rfl rfl rfl rfl rfl qgd ?_ | refine pop_new rfl rfl rfl rfl trivial ?_ | refine pop_store rfl rfl rfl Nat.zero_lt_one ?_ | refine pop_read rfl rfl rfl rfl qrd ?_ | refine pop_read2 rfl rfl rfl rfl trivial ?_ | refine pop_store rfl rfl rfl qst ?_ | fail)) | refine pnil ?_ | refine kround_exit ?_ | refine kround_ret ?_ | refine kround_next ?_ | refine kseq_normal ?_ | refine pseq ?_ | refine pregion ?_ | refine pret ?_ | refine kseq_ret ?_ | refine pskip ?_ | refine pblock ?_ | refine pexit ?_ | refine kseq_exit ?_ | refine kblock_hit rfl ?_ | refine kblock_miss rfl ?_ | refine kblock_ret ?_ | refine kblock_normal ?_ | refine kloop_ret ?_ | refine kloop_exit ?_ | refine kcut_ret ?_ | refine kcut_exit ?_ | refine pcond_t rfl ?_ | refine pcond_f rfl ?_ | (with_reducible (show POps _ _ _ _ _ _ _); simp only [List.append_eq, List.cons_append, List.nil_append]))
    exact kretv rfl ⟨trivial, trivial⟩ rfl (eqI (t2 (by omega)))
end Go.Proofs.YtcefhgomkehokaaGreat
namespace Go.Proofs.YtcefhgomkehokaaGreat
def TapC (P : Program) (f : FuncId) (args : List PV) (post : PV → Prop) : Prop := ∀ (n : Nat) (g : Nat → Int) (at_ : Int), n ≤ 9223372036854775807 → 0 ≤ at_ → at_ ≤ n →
  PtrC P f (tapeRow n g at_) args (fun r row' => post r ∧ ∃ at' : Int, 0 ≤ at' ∧ at' ≤ n ∧ row' = tapeRow n g at')
theorem TapC.mono {P : Program} {f : FuncId} {args : List PV} {post post' : PV → Prop} (h : TapC P f args post) (hp : ∀ r, post r → post' r) : TapC P f args post' :=
  fun n g at_ h1 h2 h3 => (h n g at_ h1 h2 h3).mono fun r row' ⟨a, b⟩ => ⟨hp r a, b⟩
section
variable {G : Pg2} {N : Nat} {Γ : Fr} {st : PSt} {K : Exit → PSt → Prop} {K' : PSt → Prop} {ops : Array Oper} {o : Oper} {rest : List Oper} {d : Nat} {f : FuncId} {x x0 x1 : Operand} {xs : List Operand} {args : Array Operand} {tys : Array TypeId} {c : Nat → PV} {l : Nat} {n : Nat} {g : Nat → Int} {at_ : Int} {qs : List PV} {post : PV → Prop} {m : Row → List Row}
theorem pop_tap (hg : o.guard = none) (hd : o.dst = some d) (hN : Nat.blt d N = true) (ho : o.op = .call ⟨.value x, args, tys⟩) (hx : st.ev x = .clo f 0 c) (ha0 : args.toList = x0 :: xs) (hp : st.ev x0 = .ptr l 0 0) (hrow : rowAt st.mem l = some (tapeRow n g at_)) (hm : ∀ row', frzK [] st.mem 0 (fun m0 => setM m0 l row' some) = some (m row'))
    (hc : TapC G.P f qs post) (hn : n ≤ 9223372036854775807) (b1 : 0 ≤ at_) (b2 : at_ ≤ n) (hq : xs.map st.ev = qs) (hcl : clBL qs = true)
    (h : ∀ (at' : Int) r, 0 ≤ at' → at' ≤ n → post r → POps G.toPg N Γ ops rest (PSt.put ⟨st.tm, m (tapeRow n g at')⟩ d r) K) : POps G.toPg N Γ ops (o :: rest) st K :=
  pop_ptr [] hg hd hN ho hx ha0 hp hrow rfl hm rfl (tape_cl _ _ _) (by simp) (hc n g at_ hn b1 b2) (by subst hq; exact args_cl _ hcl) (by rintro r row' ⟨h1, at', h2, h3, rfl⟩; exact h at' r h2 h3 h1)
theorem pst_tap (hg : o.guard = none) (hd : o.dst = some d) (hN : Nat.blt d N = true) (ho : o.op = .call ⟨.value x, args, tys⟩) (hx : st.ev x = .clo f 0 c) (ha0 : args.toList = x0 :: xs) (hp : st.ev x0 = .ptr l 0 0) (hrow : rowAt st.mem l = some (tapeRow n g at_)) (hm : ∀ row', frzK [] st.mem 0 (fun m0 => setM m0 l row' some) = some (m row'))
    (hc : TapC G.P f qs post) (hn : n ≤ 9223372036854775807) (b1 : 0 ≤ at_) (b2 : at_ ≤ n) (hq : xs.map st.ev = qs) (hcl : clBL qs = true)
    (h : ∀ (at' : Int) r, 0 ≤ at' → at' ≤ n → post r → K' (PSt.put ⟨st.tm, m (tapeRow n g at')⟩ d r)) : PStep G N Γ ops o st [l] false K' :=
  pst_ptr [] hg hd hN ho hx ha0 hp hrow rfl hm rfl (tape_cl _ _ _) (by simp) (hc n g at_ hn b1 b2) (by subst hq; exact args_cl _ hcl) (by rintro r row' ⟨h1, at', h2, h3, rfl⟩; exact h at' r h2 h3 h1)
end
section
variable {G : Pg2} {N : Nat} {Γ : Fr} {st : PSt} {K : Exit → PSt → Prop} {ops : Array Oper} {o : Oper} {rest : List Oper} {d : Nat} {f : FuncId} {x x0 : Operand} {xs : List Operand} {args : Array Operand} {tys : Array TypeId} {c : Nat → PV} {l : Nat} {n : Nat} {g : Nat → Int} {at_ : Int} {qs : List PV} {post : PV → Prop} {m : Row → List Row} {H : List Nat} {ni fin : Bool} {M : Nat} {ls : Array Bool} {i : Nat} {s : Sched} {K' : PSt → Prop}
theorem t1 (hc : TapC G.P f qs post) (hn : n ≤ 9223372036854775807) (h : ∀ (at' : Int) r, 0 ≤ at' → at' ≤ n → post r → POps G.toPg N Γ ops rest (PSt.put ⟨st.tm, m (tapeRow n g at')⟩ d r) K) (hg : o.guard = none := by exact rfl) (hd : o.dst = some d := by exact rfl) (hN : Nat.blt d N = true := by exact rfl) (ho : o.op = .call ⟨.value x, args, tys⟩ := by exact rfl) (hx : st.ev x = .clo f 0 c := by exact rfl) (ha0 : args.toList = x0 :: xs := by exact rfl) (hp : st.ev x0 = .ptr l 0 0 := by exact rfl) (hrow : rowAt st.mem l = some (tapeRow n g at_) := by exact rfl) (hm : ∀ row', frzK [] st.mem 0 (fun m0 => setM m0 l row' some) = some (m row') := by exact fun _ => rfl) (b1 : 0 ≤ at_ := by assumption) (b2 : at_ ≤ n := by assumption) (hq : xs.map st.ev = qs := by exact rfl) (hcl : clBL qs = true := by exact rfl) : POps G.toPg N Γ ops (o :: rest) st K := pop_tap hg hd hN ho hx ha0 hp hrow hm hc hn b1 b2 hq hcl h
theorem t2 (hc : TapC G.P f qs post) (hn : n ≤ 9223372036854775807) (h : ∀ (at' : Int) r, 0 ≤ at' → at' ≤ n → post r → PS G N Γ ops H (ni && false) fin s M (ls.setIfInBounds i true) (PSt.put ⟨st.tm, m (tapeRow n g at')⟩ d r) K) (hi : opAt ops.toList i = some o := by exact rfl) (hg : o.guard = none := by exact rfl) (hd : o.dst = some d := by exact rfl) (hN : Nat.blt d N = true := by exact rfl) (ho : o.op = .call ⟨.value x, args, tys⟩ := by exact rfl) (hx : st.ev x = .clo f 0 c := by exact rfl) (ha0 : args.toList = x0 :: xs := by exact rfl) (hp : st.ev x0 = .ptr l 0 0 := by exact rfl) (hch : chB H [l] = true := by exact rfl) (hH : inB st.mem.length H = true := by exact rfl) (hrow : rowAt st.mem l = some (tapeRow n g at_) := by exact rfl) (hm : ∀ row', frzK [] st.mem 0 (fun m0 => setM m0 l row' some) = some (m row') := by exact fun _ => rfl) (b1 : 0 ≤ at_ := by assumption) (b2 : at_ ≤ n := by assumption) (hq : xs.map st.ev = qs := by exact rfl) (hcl : clBL qs = true := by exact rfl) : PS G N Γ ops H ni fin (.one i :: s) M ls st K := xs_one (ch := [l]) hi hch hH (pst_tap hg hd hN ho hx ha0 hp hrow hm hc hn b1 b2 hq hcl h)
theorem t3 (hc : TapC G.P f qs post) (hn : n ≤ 9223372036854775807) {k : Bool → PSt → Prop} (h : ∀ (at' : Int) r, 0 ≤ at' → at' ≤ n → post r → k false (PSt.put ⟨st.tm, m (tapeRow n g at')⟩ d r)) (hi : opAt ops.toList i = some o := by exact rfl) (hg : o.guard = none := by exact rfl) (hd : o.dst = some d := by exact rfl) (hN : Nat.blt d N = true := by exact rfl) (ho : o.op = .call ⟨.value x, args, tys⟩ := by exact rfl) (hx : st.ev x = .clo f 0 c := by exact rfl) (ha0 : args.toList = x0 :: xs := by exact rfl) (hp : st.ev x0 = .ptr l 0 0 := by exact rfl) (hch : chB H [l] = true := by exact rfl) (hrow : rowAt st.mem l = some (tapeRow n g at_) := by exact rfl) (hm : ∀ row', frzK [] st.mem 0 (fun m0 => setM m0 l row' some) = some (m row') := by exact fun _ => rfl) (b1 : 0 ≤ at_ := by assumption) (b2 : at_ ≤ n := by assumption) (hq : xs.map st.ev = qs := by exact rfl) (hcl : clBL qs = true := by exact rfl) : ∃ o ch nk, opAt ops.toList i = some o ∧ chB H ch = true ∧ PStep G N Γ ops o st ch nk (k nk) := ⟨o, [l], false, hi, hch, pst_tap hg hd hN ho hx ha0 hp hrow hm hc hn b1 b2 hq hcl h⟩
end
theorem ktap {tab : List TI} {res : List ResultVar} {post : PV → Prop} {n : Nat} {g : Nat → Int} {at' : Int} {st : PSt} {ps : List PV} {pre : Prop} (h4 : rowAt st.mem 0 = some (tapeRow n g at')) (b1 : 0 ≤ at') (b2 : at' ≤ n) (h1 : presl tab st res = some (ps, pre)) (h2 : pre) (h3 : clBL ps = true) (h7 : post (pack ps)) : KretP tab res (fun r row' => post r ∧ ∃ at' : Int, 0 ≤ at' ∧ at' ≤ n ∧ row' = tapeRow n g at') .ret st :=
  kretp h1 h2 h3 h4 rfl (tape_cl _ _ _) ⟨h7, at', b1, b2, rfl⟩
theorem next_t (k : Int) (hk1 : k ≤ 9223372036854775807) : TapC G.P 10 [vi k] (fun r => ∃ x : Int, r = vi x ∧ 0 ≤ x ∧ (x < k ∨ x = 0)) := by
  intro n g at_ hn h1 h2
  refine ptr_of (G := G.toPg) (fn := Tryz.f10) Tryz.func10 rfl rfl rfl ?_; intro Γ hk
  repeat' (first | ((with_reducible (show POps _ _ _ _ (_ :: _) _ _)); (first | refine pop_read rfl rfl rfl rfl trivial ?_ | refine pop_guard rfl rfl rfl rfl rfl qgd ?_ | refine pop_new rfl rfl rfl rfl trivial ?_ | refine pop_store rfl rfl rfl Nat.zero_lt_one ?_ | refine pop_read rfl rfl rfl rfl qrd ?_ | refine pop_read2 rfl rfl rfl rfl trivial ?_ | refine pop_store rfl rfl rfl qst ?_ | fail)) | refine pnil ?_ | refine kround_exit ?_ | refine kround_ret ?_ | refine kround_next ?_ | refine kseq_normal ?_ | refine pseq ?_ | refine pregion ?_ | refine pret ?_ | refine kseq_ret ?_ | refine pskip ?_ | refine pblock ?_ | refine pexit ?_ | refine kseq_exit ?_ | refine kblock_hit rfl ?_ | refine kblock_miss rfl ?_ | refine kblock_ret ?_ | refine kblock_normal ?_ | refine kloop_ret ?_ | refine kloop_exit ?_ | refine kcut_ret ?_ | refine kcut_exit ?_ | refine pcond_t rfl ?_ | refine pcond_f rfl ?_ | (with_reducible (show POps _ _ _ _ _ _ _); simp only [List.append_eq, List.cons_append, List.nil_append]))
  (refine any_start [0] 14 rfl ?_); (first | refine aT 0 ?_ | refine aT2 0 ?_ | (refine aC 0 ?_ ?_; rotate_left)); (first | refine aT 1 ?_ | refine aT2 1 ?_ | (refine aC 1 ?_ ?_; rotate_left)); (first | refine aT 2 ?_ | refine aT2 2 ?_ | (refine aC 2 ?_ ?_; rotate_left)); (first | refine any_takeg 3 rfl (by kernel_rfl) (by kernel_rfl) (by kernel_rfl) rfl rfl rfl rfl rfl rfl qtg ?_ | (refine any_takeg 3 rfl (by kernel_rfl) (by kernel_rfl) (by kernel_rfl) rfl rfl rfl rfl rfl rfl (fun h => ?_) ?_; rotate_left)); (first | refine any_takeg 4 rfl (by kernel_rfl) (by kernel_rfl) (by kernel_rfl) rfl rfl rfl rfl rfl rfl qtg ?_ | (refine any_takeg 4 rfl (by kernel_rfl) (by kernel_rfl) (by kernel_rfl) rfl rfl rfl rfl rfl rfl (fun h => ?_) ?_; rotate_left)); (first | refine any_takeg 5 rfl (by kernel_rfl) (by kernel_rfl) (by kernel_rfl) rfl rfl rfl rfl rfl rfl qtg ?_ | (refine any_takeg 5 rfl (by kernel_rfl) (by kernel_rfl) (by kernel_rfl) rfl rfl rfl rfl rfl rfl (fun h => ?_) ?_; rotate_left)); (first | refine any_takeg 6 rfl (by kernel_rfl) (by kernel_rfl) (by kernel_rfl) rfl rfl rfl rfl rfl rfl qtg ?_ | (refine any_takeg 6 rfl (by kernel_rfl) (by kernel_rfl) (by kernel_rfl) rfl rfl rfl rfl rfl rfl (fun h => ?_) ?_; rotate_left)); (first | refine any_takeg 7 rfl (by kernel_rfl) (by kernel_rfl) (by kernel_rfl) rfl rfl rfl rfl rfl rfl qtg ?_ | (refine any_takeg 7 rfl (by kernel_rfl) (by kernel_rfl) (by kernel_rfl) rfl rfl rfl rfl rfl rfl (fun h => ?_) ?_; rotate_left)); (first | refine any_takeg 8 rfl (by kernel_rfl) (by kernel_rfl) (by kernel_rfl) rfl rfl rfl rfl rfl rfl qtg ?_ | (refine any_takeg 8 rfl (by kernel_rfl) (by kernel_rfl) (by kernel_rfl) rfl rfl rfl rfl rfl rfl (fun h => ?_) ?_; rotate_left)); (first | refine any_takeg 9 rfl (by kernel_rfl) (by kernel_rfl) (by kernel_rfl) rfl rfl rfl rfl rfl rfl qtg ?_ | (refine any_takeg 9 rfl (by kernel_rfl) (by kernel_rfl) (by kernel_rfl) rfl rfl rfl rfl rfl rfl (fun h => ?_) ?_; rotate_left)); (first | refine any_takeg 10 rfl (by kernel_rfl) (by kernel_rfl) (by kernel_rfl) rfl rfl rfl rfl rfl rfl qtg ?_ | (refine any_takeg 10 rfl (by kernel_rfl) (by kernel_rfl) (by kernel_rfl) rfl rfl rfl rfl rfl rfl (fun h => ?_) ?_; rotate_left)); (first | refine any_takeg 11 rfl (by kernel_rfl) (by kernel_rfl) (by kernel_rfl) rfl rfl rfl rfl rfl rfl qtg ?_ | (refine any_takeg 11 rfl (by kernel_rfl) (by kernel_rfl) (by kernel_rfl) rfl rfl rfl rfl rfl rfl (fun h => ?_) ?_; rotate_left)); (first | refine any_takeg 12 rfl (by kernel_rfl) (by kernel_rfl) (by kernel_rfl) rfl rfl rfl rfl rfl rfl qtg ?_ | (refine any_takeg 12 rfl (by kernel_rfl) (by kernel_rfl) (by kernel_rfl) rfl rfl rfl rfl rfl rfl (fun h => ?_) ?_; rotate_left)); (first | refine aT 13 ?_ | refine aT2 13 ?_ | (refine aC 13 ?_ ?_; rotate_left)); (refine any_done (by kernel_rfl) ?_)
  repeat' (first | ((with_reducible (show POps _ _ _ _ (_ :: _) _ _)); (first | refine pop_read rfl rfl rfl rfl trivial ?_ | refine pop_guard rfl rfl rfl rfl rfl qgd ?_ | refine pop_new rfl rfl rfl rfl trivial ?_ | refine pop_store rfl rfl rfl Nat.zero_lt_one ?_ | refine pop_read rfl rfl rfl rfl qrd ?_ | refine pop_read2 rfl rfl rfl rfl trivial ?_ | refine pop_store rfl rfl rfl qst ?_ | fail)) | refine pnil ?_ | refine kround_exit ?_ | refine kround_ret ?_ | refine kround_next ?_ | refine kseq_normal ?_ | refine pseq ?_ | refine pregion ?_ | refine pret ?_ | refine kseq_ret ?_ | refine pskip ?_ | refine pblock ?_ | refine pexit ?_ | refine kseq_exit ?_ | refine kblock_hit rfl ?_ | refine kblock_miss rfl ?_ | refine kblock_ret ?_ | refine kblock_normal ?_ | refine kloop_ret ?_ | refine kloop_exit ?_ | refine kcut_ret ?_ | refine kcut_exit ?_ | refine pcond_t rfl ?_ | refine pcond_f rfl ?_ | (with_reducible (show POps _ _ _ _ _ _ _); simp only [List.append_eq, List.cons_append, List.nil_append]))
  refine pcond rfl ?_ ?_ <;> intro hc
  · repeat' (first | ((with_reducible (show POps _ _ _ _ (_ :: _) _ _)); (first | refine pop_read rfl rfl rfl rfl trivial ?_ | refine pop_guard rfl rfl rfl rfl rfl qgd ?_ | refine pop_new rfl rfl rfl rfl trivial ?_ | refine pop_store rfl rfl rfl Nat.zero_lt_one ?_ | refine pop_read rfl rfl rfl rfl qrd ?_ | refine pop_read2 rfl rfl rfl rfl trivial ?_ | refine pop_store rfl rfl rfl qst ?_ | fail)) | refine pnil ?_ | refine kround_exit ?_ | refine kround_ret ?_ | refine kround_next ?_ | refine kseq_normal ?_ | refine pseq ?_ | refine pregion ?_ | refine pret ?_ | refine kseq_ret ?_ | refine pskip ?_ | refine pblock ?_ | refine pexit ?_ | refine kseq_exit ?_ | refine kblock_hit rfl ?_ | refine kblock_miss rfl ?_ | refine kblock_ret ?_ | refine kblock_normal ?_ | refine kloop_ret ?_ | refine kloop_exit ?_ | refine kcut_ret ?_ | refine kcut_exit ?_ | refine pcond_t rfl ?_ | refine pcond_f rfl ?_ | (with_reducible (show POps _ _ _ _ _ _ _); simp only [List.append_eq, List.cons_append, List.nil_append]))
    exact ktap rfl h1 h2 rfl ⟨trivial, trivial⟩ rfl ⟨0, rfl, by omega, .inr rfl⟩
  · have hb : 1 ≤ k ∧ at_ < n := by
      by_cases hk2 : k < 1
      · simp [hk2] at hc
      · simp [hk2] at hc; omega
    repeat' (first | ((with_reducible (show POps _ _ _ _ (_ :: _) _ _)); (first | refine pop_read rfl rfl rfl rfl trivial ?_ | refine pop_guard rfl rfl rfl rfl rfl qgd ?_ | refine pop_new rfl rfl rfl rfl trivial ?_ | refine pop_store rfl rfl rfl Nat.zero_lt_one ?_ | refine pop_read rfl rfl rfl rfl qrd ?_ | refine pop_read2 rfl rfl rfl rfl trivial ?_ | refine pop_store rfl rfl rfl qst ?_ | fail)) | refine pnil ?_ | refine kround_exit ?_ | refine kround_ret ?_ | refine kround_next ?_ | refine kseq_normal ?_ | refine pseq ?_ | refine pregion ?_ | refine pret ?_ | refine kseq_ret ?_ | refine pskip ?_ | refine pblock ?_ | refine pexit ?_ | refine kseq_exit ?_ | refine kblock_hit rfl ?_ | refine kblock_miss rfl ?_ | refine kblock_ret ?_ | refine kblock_normal ?_ | refine kloop_ret ?_ | refine kloop_exit ?_ | refine kcut_ret ?_ | refine kcut_exit ?_ | refine pcond_t rfl ?_ | refine pcond_f rfl ?_ | (with_reducible (show POps _ _ _ _ _ _ _); simp only [List.append_eq, List.cons_append, List.nil_append]))
    rw [w64 (n := at_ + 1) (by omega) (by omega)]
    (refine any_start [0] 14 rfl ?_); (first | refine aT 0 ?_ | refine aT2 0 ?_ | (refine aC 0 ?_ ?_; rotate_left)); (first | refine aT 1 ?_ | refine aT2 1 ?_ | (refine aC 1 ?_ ?_; rotate_left)); (first | refine aT 2 ?_ | refine aT2 2 ?_ | (refine aC 2 ?_ ?_; rotate_left)); (first | refine aT 3 ?_ | refine aT2 3 ?_ | (refine aC 3 ?_ ?_; rotate_left)); (first | refine aT 4 ?_ | refine aT2 4 ?_ | (refine aC 4 ?_ ?_; rotate_left)); (first | refine aT 5 ?_ | refine aT2 5 ?_ | (refine aC 5 ?_ ?_; rotate_left)); (first | refine aT 6 ?_ | refine aT2 6 ?_ | (refine aC 6 ?_ ?_; rotate_left)); (first | refine aT 7 ?_ | refine aT2 7 ?_ | (refine aC 7 ?_ ?_; rotate_left)); (first | refine aT 8 ?_ | refine aT2 8 ?_ | (refine aC 8 ?_ ?_; rotate_left)); (first | refine aT 9 ?_ | refine aT2 9 ?_ | (refine aC 9 ?_ ?_; rotate_left)); (first | refine aT 10 ?_ | refine aT2 10 ?_ | (refine aC 10 ?_ ?_; rotate_left)); (first | refine aT 11 ?_ | refine aT2 11 ?_ | (refine aC 11 ?_ ?_; rotate_left)); (refine aO 12 rfl (ch := [])  (pst_callv rfl rfl rfl rfl rfl (mod_c _ _ hb.1 hk1) rfl rfl rfl ?_)); (first | refine aT 13 ?_ | refine aT2 13 ?_ | (refine aC 13 ?_ ?_; rotate_left)); (refine any_done (by kernel_rfl) ?_)
    · repeat' (first | ((with_reducible (show POps _ _ _ _ (_ :: _) _ _)); (first | refine pop_read rfl rfl rfl rfl trivial ?_ | refine pop_guard rfl rfl rfl rfl rfl qgd ?_ | refine pop_new rfl rfl rfl rfl trivial ?_ | refine pop_store rfl rfl rfl Nat.zero_lt_one ?_ | refine pop_read rfl rfl rfl rfl qrd ?_ | refine pop_read2 rfl rfl rfl rfl trivial ?_ | refine pop_store rfl rfl rfl qst ?_ | fail)) | refine pnil ?_ | refine kround_exit ?_ | refine kround_ret ?_ | refine kround_next ?_ | refine kseq_normal ?_ | refine pseq ?_ | refine pregion ?_ | refine pret ?_ | refine kseq_ret ?_ | refine pskip ?_ | refine pblock ?_ | refine pexit ?_ | refine kseq_exit ?_ | refine kblock_hit rfl ?_ | refine kblock_miss rfl ?_ | refine kblock_ret ?_ | refine kblock_normal ?_ | refine kloop_ret ?_ | refine kloop_exit ?_ | refine kcut_ret ?_ | refine kcut_exit ?_ | refine pcond_t rfl ?_ | refine pcond_f rfl ?_ | (with_reducible (show POps _ _ _ _ _ _ _); simp only [List.append_eq, List.cons_append, List.nil_append]))
      have e0 := Int.emod_nonneg (g (IntKind.i64.wrap (at_ + 1 - 1)).toNat) (show k ≠ 0 by omega)
      have e1 := Int.emod_lt_of_pos (g (IntKind.i64.wrap (at_ + 1 - 1)).toNat) (show 0 < k by omega)
      exact ktap rfl (show 0 ≤ at_ + 1 by omega) (by omega) rfl ⟨trivial, trivial⟩ rfl ⟨_, rfl, e0, .inl e1⟩
    all_goals
      have e2 : IntKind.i64.wrap (at_ + 1 - 1) = at_ := by rw [w64 (by omega) (by omega)]; omega
      have e3 : 0 ≤ IntKind.i64.wrap (at_ + 1 - 1) ∧ IntKind.i64.wrap (at_ + 1 - 1) < n := by rw [e2]; omega
      have e4 : (IntKind.i64.wrap (at_ + 1 - 1)).toNat < n := by rw [e2]; omega
      first
        | exact e3
        | exact e4
section
variable {N : Nat} {Γ : Fr} {st : PSt} {K : Exit → PSt → Prop} {ops : Array Oper} {o : Oper} {rest : List Oper} {d : Nat} {x x0 : Operand} {xs : List Operand} {args : Array Operand} {tys : Array TypeId} {c : Nat → PV} {l : Nat} {n : Nat} {g : Nat → Int} {at_ : Int} {k : Int} {m : Row → List Row} {H : List Nat} {ni fin : Bool} {M : Nat} {ls : Array Bool} {i : Nat} {s : Sched} {K' : PSt → Prop}
theorem tn1 (hn : n ≤ 9223372036854775807) (h : ∀ (at' : Int), 0 ≤ at' → at' ≤ n → ∀ (x : Int), 0 ≤ x → (x < k ∨ x = 0) → POps G.toPg N Γ ops rest (PSt.put ⟨st.tm, m (tapeRow n g at')⟩ d (vi x)) K) (hg : o.guard = none := by exact rfl) (hd : o.dst = some d := by exact rfl) (hN : Nat.blt d N = true := by exact rfl) (ho : o.op = .call ⟨.value x, args, tys⟩ := by exact rfl) (hx : st.ev x = .clo 10 0 c := by exact rfl) (ha0 : args.toList = x0 :: xs := by exact rfl) (hp : st.ev x0 = .ptr l 0 0 := by exact rfl) (hrow : rowAt st.mem l = some (tapeRow n g at_) := by exact rfl) (hm : ∀ row', frzK [] st.mem 0 (fun m0 => setM m0 l row' some) = some (m row') := by exact fun _ => rfl) (b1 : 0 ≤ at_ := by assumption) (b2 : at_ ≤ n := by assumption) (hq : xs.map st.ev = [vi k] := by exact rfl) (hk : k ≤ 9223372036854775807 := by omega) : POps G.toPg N Γ ops (o :: rest) st K := t1 (next_t k hk) hn (by rintro at' _ b1 b2 ⟨x, rfl, h1, h2⟩; exact h at' b1 b2 x h1 h2) hg hd hN ho hx ha0 hp hrow hm b1 b2 hq rfl
theorem tn2 (hn : n ≤ 9223372036854775807) (h : ∀ (at' : Int), 0 ≤ at' → at' ≤ n → ∀ (x : Int), 0 ≤ x → (x < k ∨ x = 0) → PS G N Γ ops H (ni && false) fin s M (ls.setIfInBounds i true) (PSt.put ⟨st.tm, m (tapeRow n g at')⟩ d (vi x)) K) (hi : opAt ops.toList i = some o := by exact rfl) (hg : o.guard = none := by exact rfl) (hd : o.dst = some d := by exact rfl) (hN : Nat.blt d N = true := by exact rfl) (ho : o.op = .call ⟨.value x, args, tys⟩ := by exact rfl) (hx : st.ev x = .clo 10 0 c := by exact rfl) (ha0 : args.toList = x0 :: xs := by exact rfl) (hp : st.ev x0 = .ptr l 0 0 := by exact rfl) (hch : chB H [l] = true := by exact rfl) (hH : inB st.mem.length H = true := by exact rfl) (hrow : rowAt st.mem l = some (tapeRow n g at_) := by exact rfl) (hm : ∀ row', frzK [] st.mem 0 (fun m0 => setM m0 l row' some) = some (m row') := by exact fun _ => rfl) (b1 : 0 ≤ at_ := by assumption) (b2 : at_ ≤ n := by assumption) (hq : xs.map st.ev = [vi k] := by exact rfl) (hk : k ≤ 9223372036854775807 := by omega) : PS G N Γ ops H ni fin (.one i :: s) M ls st K := t2 (next_t k hk) hn (by rintro at' _ b1 b2 ⟨x, rfl, h1, h2⟩; exact h at' b1 b2 x h1 h2) hi hg hd hN ho hx ha0 hp hch hH hrow hm b1 b2 hq rfl
end
end Go.Proofs.YtcefhgomkehokaaGreat
namespace Go.Proofs.YtcefhgomkehokaaGreat
theorem nv_t {b : Bool} (h : (!b) = true) : b = false := by cases b; rfl; cases h
theorem nv_f {b : Bool} (h : (!b) = false) : b = true := by cases b; cases h; rfl
abbrev rD1 (d : Df) : Row := ⟨.own, true, 1, 21, fun _ => nthP (cD d)⟩
theorem rD1_cl (d : Df) : rowCl (rD1 d) := fun i _ j _ => clL_nth _ j (cD_cl d)
abbrev rA1 (nm : ByteArray) (l : List Df) : Row := ⟨.own, true, 1, 2, fun _ => nthP [vs nm, vDs l]⟩
theorem rA1_cl (nm : ByteArray) (l : List Df) : rowCl (rA1 nm l) := fun i _ j _ => clL_nth _ j ⟨trivial, trivial, trivial⟩
theorem computed_c (d : Df) : PureC G.P 42 [vD d] (fun r => r = vb (comp d)) := by
  refine pure_of (G := G.toPg) (fn := Tryz.f42) Tryz.func42 rfl rfl rfl ?_; intro Γ hk
  repeat' (first | refine gg ?_ | exact trivial | with_reducible refine wA ?_ ?_ | refine Y2.mk ?_ ?_ | refine gh ?_ | exact qq | fail)
  refine kretv rfl ⟨trivial, trivial⟩ rfl (eqB ?_)
  unfold comp
  rw [bqd, bqd, Bool.eq_iff_iff]
  by_cases h : d.kind = 3 <;> simp [h]
theorem check_c (nm : ByteArray) (l : List Df) (day : Int) (hs : nm.size ≤ 9223372036854775807) (hb : ∀ d, d ∈ l → BdD d) : PureC G.P 39 [vA nm l, vi day] (fun r => r = vi (chkE nm l day)) := by
  have c1 := validAgr_c nm l hs hb
  refine pure_of (G := G.toPg) (fn := Tryz.f39) Tryz.func39 rfl rfl rfl ?_; intro Γ hk
  repeat' (first | refine gg ?_ | exact trivial | with_reducible refine wA ?_ ?_ | refine Y2.mk ?_ ?_ | refine zz c1 ?_ | refine gh ?_ | exact qq | fail)
  refine pcond rfl ?_ ?_ <;> intro h1
  · repeat' (first | refine gg ?_ | exact trivial | with_reducible refine wA ?_ ?_ | refine Y2.mk ?_ ?_ | refine gh ?_ | exact qq | fail)
    refine kretv rfl ⟨trivial, trivial⟩ rfl (eqI ?_)
    rw [chkE, if_pos (by simpa using h1)]
  · have h1 : agrS nm l = true := by simpa using h1
    repeat' (first | refine gg ?_ | exact trivial | with_reducible refine wA ?_ ?_ | refine Y2.mk ?_ ?_ | refine gh ?_ | exact qq | fail)
    refine pcond (b := decide (day < 0 ∨ 84005 < day)) ?_ ?_ ?_
    · refine eqB ?_
      by_cases q1 : day < 0 <;> simp [q1]
    · intro h2
      have h2 := of_decide_eq_true h2
      repeat' (first | refine gg ?_ | exact trivial | with_reducible refine wA ?_ ?_ | refine Y2.mk ?_ ?_ | refine gh ?_ | exact qq | fail)
      refine kretv rfl ⟨trivial, trivial⟩ rfl (eqI ?_)
      rw [chkE, if_neg (by rw [h1]; decide), if_pos h2]
    · intro h2
      have h2 := of_decide_eq_false h2
      repeat' (first | refine gg ?_ | exact trivial | with_reducible refine wA ?_ ?_ | refine Y2.mk ?_ ?_ | refine gh ?_ | exact qq | fail)
      refine kretv rfl ⟨trivial, trivial⟩ rfl (eqI ?_)
      rw [chkE, if_neg (by rw [h1]; decide), if_neg h2]
set_option maxHeartbeats 4000000 in
theorem replaced_c (nm : ByteArray) (l : List Df) (day : Int) (i : Nat) (hi : i < l.length) (hl : l.length ≤ 1000000) : PureC G.P 66 [vA nm l, vi day, vi i] (fun r => r = vb (replB l day i)) := by
  refine pure_of (G := G.toPg) (fn := Tryz.f66) Tryz.func66 rfl rfl rfl ?_; intro Γ hk
  repeat' (first | refine gg ?_ | exact trivial | with_reducible refine wA ?_ ?_ | refine Y2.mk ?_ ?_ | exact ⟨(show (0 : Int) ≤ (i : Int) by omega), (show ((i : Nat) : Int) < ((l.length : Nat) : Int) by omega)⟩ | exact ⟨(show ((i : Nat) : Int).toNat < l.length by omega)⟩ | exact (show ((i : Nat) : Int).toNat < l.length by omega) | refine gh ?_ | exact qq | fail)
  refine pcan (st' := ⟨[(1, vi day), (2, vi i), (7, .ptr 0 0 0), (16, vDs l), (17, vi l.length), (18, vi ((0 : Nat) : Int))], [rD1 (lF dD l i)]⟩) (can_rowsv [1] (k0_sel hk rfl) rfl (.cons rfl (RowEq.cl (rD1_cl _)) .nil) tmq) ?_
  refine ploop (fun q st => ∃ j : Nat, j ≤ l.length ∧ (∀ j', j' < j → supB l day i j' = false) ∧ q = l.length - j ∧ st = ⟨[(1, vi day), (2, vi i), (7, .ptr 0 0 0), (16, vDs l), (17, vi l.length), (18, vi j)], [rD1 (lF dD l i)]⟩) l.length ⟨0, by omega, fun j hj => by omega, by omega, rfl⟩ ?_
  rintro _ _ ⟨j, hj, hv, rfl, rfl⟩
  have hwj : IntKind.i64.wrap ((j : Int) + 1) = ((j + 1 : Nat) : Int) := w64 (by omega) (by omega)
  repeat' (first | refine gg ?_ | exact trivial | with_reducible refine wA ?_ ?_ | refine Y2.mk ?_ ?_ | refine gh ?_ | exact qq | fail)
  refine pcond rfl ?_ ?_ <;> intro hc
  · have hc : j < l.length := by have := of_decide_eq_true hc; omega
    have next : supB l day i j = false → ∀ j', j' < j + 1 → supB l day i j' = false := fun h j' hj' => by
      by_cases e : j' = j
      · subst e; exact h
      · exact hv j' (by omega)
    repeat' (first | refine gg ?_ | exact trivial | with_reducible refine wA ?_ ?_ | refine Y2.mk ?_ ?_ | refine gh ?_ | exact qq | fail)
    refine pcond (b := !decide ((lF dD l j).kind = (lF dD l i).kind ∧ (lF dD l j).nm.toList = (lF dD l i).nm.toList ∧ (lF dD l j).day ≤ day)) ?_ ?_ ?_
    · refine eqB ?_
      show (bif bif !((lF dD l j).kind == (lF dD l i).kind) then true else !((lF dD l j).nm.toList == (lF dD l i).nm.toList) then true else decide (day < (lF dD l j).day)) = _
      by_cases e1 : (lF dD l j).kind = (lF dD l i).kind <;> by_cases e2 : (lF dD l j).nm.toList = (lF dD l i).nm.toList <;> by_cases e3 : (lF dD l j).day ≤ day <;> simp [e1, e2, e3] <;> omega
    · intro h1
      have h1 : ¬ _ := of_decide_eq_false (nv_t h1)
      repeat' (first | refine gg ?_ | exact trivial | with_reducible refine wA ?_ ?_ | refine Y2.mk ?_ ?_ | refine gh ?_ | exact qq | fail)
      rw [hwj]
      exact kloop_next (st' := ⟨[(1, vi day), (2, vi i), (7, .ptr 0 0 0), (16, vDs l), (17, vi l.length), (18, vi ((j + 1 : Nat) : Int))], [rD1 (lF dD l i)]⟩) (l.length - (j + 1)) (can_rowsv [0] (k0_sel hk rfl) rfl (.cons rfl (RowEq.cl (rD1_cl _)) .nil) tmq) (by omega) ⟨j + 1, by omega, next (decide_eq_false fun ⟨a, b, c, _⟩ => h1 ⟨a, b, c⟩), rfl, rfl⟩
    · intro h1
      have h1 := of_decide_eq_true (nv_f h1)
      repeat' (first | refine gg ?_ | exact trivial | with_reducible refine wA ?_ ?_ | refine Y2.mk ?_ ?_ | refine gh ?_ | exact qq | fail)
      refine pcond (b := decide ((lF dD l i).day < (lF dD l j).day ∨ (lF dD l j).day = (lF dD l i).day ∧ j < i)) ?_ ?_ ?_
      · refine eqB ?_
        show (bif decide ((lF dD l i).day < (lF dD l j).day) then true else bif ((lF dD l j).day == (lF dD l i).day) then decide ((j : Int) < (i : Int)) else false) = _
        by_cases e1 : (lF dD l i).day < (lF dD l j).day <;> by_cases e2 : (lF dD l j).day = (lF dD l i).day <;> by_cases e3 : j < i <;> simp [e1, e2, e3]
      · intro h2
        have h2 := of_decide_eq_true h2
        repeat' (first | refine gg ?_ | exact trivial | with_reducible refine wA ?_ ?_ | refine Y2.mk ?_ ?_ | refine gh ?_ | exact qq | fail)
        refine kretv rfl ⟨trivial, trivial⟩ rfl ?_
        rw [repl_yes hc (decide_eq_true ⟨h1.1, h1.2.1, h1.2.2, h2⟩)]; rfl
      · intro h2
        have h2 := of_decide_eq_false h2
        repeat' (first | refine gg ?_ | exact trivial | with_reducible refine wA ?_ ?_ | refine Y2.mk ?_ ?_ | refine gh ?_ | exact qq | fail)
        rw [hwj]
        exact kloop_next (st' := ⟨[(1, vi day), (2, vi i), (7, .ptr 0 0 0), (16, vDs l), (17, vi l.length), (18, vi ((j + 1 : Nat) : Int))], [rD1 (lF dD l i)]⟩) (l.length - (j + 1)) (can_rowsv [0] (k0_sel hk rfl) rfl (.cons rfl (RowEq.cl (rD1_cl _)) .nil) tmq) (by omega) ⟨j + 1, by omega, next (decide_eq_false fun ⟨_, _, _, c⟩ => h2 c), rfl, rfl⟩
  · have hjl : j = l.length := by have := of_decide_eq_false hc; omega
    subst hjl
    repeat' (first | refine gg ?_ | exact trivial | with_reducible refine wA ?_ ?_ | refine Y2.mk ?_ ?_ | refine gh ?_ | exact qq | fail)
    refine kretv rfl ⟨trivial, trivial⟩ rfl ?_
    rw [repl_no hv]; rfl
set_option maxHeartbeats 8000000 in
theorem active_c (nm : ByteArray) (l : List Df) (day : Int) (hl : l.length ≤ 1000000) : PureC G.P 40 [vA nm l, vi day] (fun r => r = sV (actL l day)) := by
  refine pure_of (G := G.toPg) (fn := Tryz.f40) Tryz.func40 rfl rfl rfl ?_; intro Γ hk
  repeat' (first | refine gg ?_ | exact trivial | with_reducible refine wA ?_ ?_ | refine Y2.mk ?_ ?_ | refine gh ?_ | exact qq | fail)
  refine pcan (can_virt (vRow c1 1 0 (lF 0 [])) rfl) ?_
  refine pcan (st' := ⟨[(1, vi day), (2, .ptr 0 0 0), (5, slP 0 1), (9, vDs l), (10, vi l.length), (11, vi ((0 : Nat) : Int))], [rA1 nm l, vRow c1 1 0 (lF 0 (actN l day 0))]⟩) (can_rowsv [0, 1] (k0_sel hk rfl) rfl (.cons rfl (RowEq.cl (rA1_cl _ _)) (.cons rfl (RowEq.cl (v_cl c1_cl _ _ _)) .nil)) tmq) ?_
  refine ploop (fun q st => ∃ j k : Nat, j ≤ l.length ∧ (actN l day j).length = k ∧ q = l.length - j ∧ st = ⟨[(1, vi day), (2, .ptr 0 0 0), (5, slP k 1), (9, vDs l), (10, vi l.length), (11, vi j)], [rA1 nm l, vRow c1 1 k (lF 0 (actN l day j))]⟩) l.length ⟨0, 0, by omega, rfl, by omega, rfl⟩ ?_
  rintro _ _ ⟨j, k, hj, hk2, rfl, rfl⟩
  have hwj : IntKind.i64.wrap ((j : Int) + 1) = ((j + 1 : Nat) : Int) := w64 (by omega) (by omega)
  have hkl := actN_len l day j
  repeat' (first | refine gg ?_ | exact trivial | with_reducible refine wA ?_ ?_ | refine Y2.mk ?_ ?_ | refine gh ?_ | exact qq | fail)
  refine pcond rfl ?_ ?_ <;> intro hc
  · have hc : j < l.length := by have := of_decide_eq_true hc; omega
    have cr := replaced_c nm l day j hc hl
    repeat' (first | refine gg ?_ | exact trivial | with_reducible refine wA ?_ ?_ | refine Y2.mk ?_ ?_ | refine zz cr ?_ | refine gh ?_ | exact qq | fail)
    refine pcond (b := isAct l day j) ?_ ?_ ?_
    · refine eqB ?_
      unfold isAct
      by_cases e1 : (lF dD l j).kind = 1 <;> by_cases e2 : (lF dD l j).kind = 5 <;> by_cases e3 : (lF dD l j).day ≤ day <;> cases replB l day j <;> simp [e1, e2, e3]
    · intro h1
      have e1 := actN_y h1
      rcases k with _ | k
      · repeat' (first | refine gg ?_ | exact trivial | with_reducible refine wA ?_ ?_ | refine Y2.mk ?_ ?_ | exact ⟨Nat.le_refl _, (by rw [hk]; exact Nat.le_of_ble_eq_true rfl), Nat.le_of_eq (Nat.zero_add _), (show (_ : Nat) * 8 ≤ 140737488355328 from by omega), (show (_ : Nat) ≤ 9223372036854775807 from by omega)⟩ | refine gh ?_ | exact qq | fail)
        rw [hwj]
        exact kloop_next (st' := ⟨[(1, vi day), (2, .ptr 0 0 0), (5, slP (0 + 1) 1), (9, vDs l), (10, vi l.length), (11, vi ((j + 1 : Nat) : Int))], [rA1 nm l, vRow c1 1 (0 + 1) (lF 0 (actN l day j ++ [(j : Int)]))]⟩) (l.length - (j + 1)) (can_rowsv [0, 4] (k0_sel hk rfl) rfl (.cons rfl (RowEq.cl (rA1_cl _ _)) (.cons rfl (app_l0 c1_cl hk2 rfl) .nil)) tmq) (by omega) ⟨j + 1, 0 + 1, by omega, by rw [e1, List.length_append, hk2]; rfl, rfl, by rw [e1]⟩
      · repeat' (first | refine gg ?_ | exact trivial | with_reducible refine wA ?_ ?_ | refine Y2.mk ?_ ?_ | exact ⟨Nat.le_refl _, (by rw [hk]; exact Nat.le_of_ble_eq_true rfl), Nat.le_of_eq (Nat.zero_add _), (show (_ : Nat) * 8 ≤ 140737488355328 from by omega), (show (_ : Nat) ≤ 9223372036854775807 from by omega)⟩ | refine gh ?_ | exact qq | fail)
        rw [hwj]
        exact kloop_next (st' := ⟨[(1, vi day), (2, .ptr 0 0 0), (5, slP (k + 1 + 1) 1), (9, vDs l), (10, vi l.length), (11, vi ((j + 1 : Nat) : Int))], [rA1 nm l, vRow c1 1 (k + 1 + 1) (lF 0 (actN l day j ++ [(j : Int)]))]⟩) (l.length - (j + 1)) (can_rowsv [0, 4] (k0_sel hk rfl) rfl (.cons rfl (RowEq.cl (rA1_cl _ _)) (.cons rfl (app_l c1_cl hk2 rfl rfl) .nil)) tmq) (by omega) ⟨j + 1, k + 1 + 1, by omega, by rw [e1, List.length_append, hk2]; rfl, rfl, by rw [e1]⟩
    · intro h1
      have e1 := actN_n h1
      repeat' (first | refine gg ?_ | exact trivial | with_reducible refine wA ?_ ?_ | refine Y2.mk ?_ ?_ | refine gh ?_ | exact qq | fail)
      rw [hwj]
      exact kloop_next (st' := ⟨[(1, vi day), (2, .ptr 0 0 0), (5, slP k 1), (9, vDs l), (10, vi l.length), (11, vi ((j + 1 : Nat) : Int))], [rA1 nm l, vRow c1 1 k (lF 0 (actN l day j))]⟩) (l.length - (j + 1)) (can_rowsv [0, 1] (k0_sel hk rfl) rfl (.cons rfl (RowEq.cl (rA1_cl _ _)) (.cons rfl (RowEq.cl (v_cl c1_cl _ _ _)) .nil)) (by exact ⟨PEq.refl _, PEq.refl _, peq_slP rfl, PEq.refl _, PEq.refl _, PEq.refl _, trivial⟩)) (by omega) ⟨j + 1, k, by omega, by rw [e1]; exact hk2, rfl, by rw [e1]⟩
  · have hjl : j = l.length := by have := of_decide_eq_false hc; omega
    subst hjl
    rcases k with _ | k
    · repeat' (first | refine gg ?_ | exact trivial | with_reducible refine wA ?_ ?_ | refine Y2.mk ?_ ?_ | refine gh ?_ | exact qq | fail)
      refine xdone ?_
      refine kret [1] rfl ⟨trivial, trivial⟩ (qs := [.vsl 0 1 (tI (lF 0 (actL l day)))]) ⟨argTI (arg_v (n := 0) (l := 1) c1_cl rfl (List.Mem.head _)), trivial⟩ ?_
      rw [← hk2]; rfl
    · repeat' (first | refine gg ?_ | exact trivial | with_reducible refine wA ?_ ?_ | refine Y2.mk ?_ ?_ | refine gh ?_ | exact qq | fail)
      refine xdone ?_
      refine kret [1] rfl ⟨trivial, trivial⟩ (qs := [.vsl (k + 1) 1 (tI (lF 0 (actL l day)))]) ⟨argTI (arg_v (n := k + 1) (l := 1) c1_cl rfl (List.Mem.head _)), trivial⟩ ?_
      rw [← hk2]; rfl
end Go.Proofs.YtcefhgomkehokaaGreat
namespace Go.Proofs.YtcefhgomkehokaaGreat
def flatK {α : Type} : Nat → (Nat → List α) → List α
  | 0, _ => []
  | n + 1, g => flatK n g ++ g n
def refsE : Ex → List Ex
  | .nil => []
  | .mk op vn vd um uh ud nm cnt mode nk kf => (if op = 3 ∨ op = 4 then [.mk op vn vd um uh ud nm cnt mode nk kf] else []) ++ flatK nk fun i => refsE (kf i)
theorem flatK_len {α : Type} (g : Nat → List α) (h : Nat → Nat) : ∀ n, (∀ i, i < n → (g i).length ≤ h i) → (flatK n g).length ≤ wS n h
  | 0, _ => Nat.le_refl _
  | n + 1, hh => by
    simp only [flatK, wS, List.length_append]
    exact Nat.add_le_add (flatK_len g h n fun i hi => hh i (by omega)) (hh n (by omega))
theorem refs_len : ∀ e : Ex, (refsE e).length ≤ e.w
  | .nil => Nat.le_refl _
  | .mk op vn vd um uh ud nm cnt mode nk kf => by
    have h := flatK_len (fun i => refsE (kf i)) (fun i => (kf i).w) nk fun i _ => refs_len (kf i)
    simp only [refsE, Ex.w, List.length_append]
    split <;> simp <;> omega
abbrev nilX : PV := .val (.slice none 0 0)
theorem oX_cl (k : Nat) (g : Nat → Ex) : rowCl (oRow cX 10 k g) := fun i _ j _ => tF_cl cX_cl g i j
abbrev rXE (e : Ex) : Row := ⟨.own, true, 1, 10, fun _ => nthP (cX e)⟩
theorem rXE_cl (e : Ex) : rowCl (rXE e) := fun i _ j _ => clL_nth _ j (cX_cl e)
def OwnP (P R : List Ex) (r : PV) (rows : List Row) : Prop := ∃ m, (P ++ R).length = m + 1 ∧ ((r = .lsl 0 0 (m + 1) ∧ rows = [oRow cX 10 (m + 1) (lF .nil (P ++ R))]) ∨ ∃ (k' : Nat) (g' : Nat → Ex), r = .lsl 1 0 (m + 1) ∧ rows = [oRow cX 10 k' g', oRow cX 10 (m + 1) (lF .nil (P ++ R))])
structure RefC (e : Ex) : Prop where
  nil : RowsC G.P 68 [] [nilX, vX e] (fun r rows => ∃ k, (refsE e).length = k ∧ r = slP k 0 ∧ rows = [vRow cX 10 k (lF .nil (refsE e))])
  own : ∀ (P : List Ex) (k : Nat), P.length = k + 1 → P.length + e.w ≤ 1000000 → RowsC G.P 68 [oRow cX 10 (k + 1) (lF .nil P)] [.lsl 0 0 (k + 1), vX e] (OwnP P (refsE e))
theorem lF_snoc {P : List Ex} {e : Ex} {k a : Nat} (hP : P.length = k) (ha : a < k + 1) : lF .nil (P ++ [e]) a = if a < k then lF .nil P a else e := by
  by_cases h : a < k
  · rw [if_pos h, lF_lt (by omega)]
  · obtain rfl : a = k := by omega
    rw [if_neg h, ← hP, lF_at]
theorem app_X {τ : Nat → Option Nat} {P : List Ex} {e : Ex} {k M sz : Nat} {f g : Nat → Nat → PV} (hP : P.length = k) (hM : M = k + 1) (hs : sz = 10) (hf : f = tF cX (lF .nil P)) (hg : ∀ b, g 0 b = nthP (cX e) b) : RowEq (Row.ren τ ⟨.own, false, M, sz, appF k f g⟩) (oRow cX 10 (k + 1) (lF .nil (P ++ [e]))) := by
  subst hM hs hf
  refine ⟨rfl, rfl, Nat.le_refl _, fun a ha b hb => ?_⟩
  have ha : a < k + 1 := ha
  show PEq ((appF k (tF cX (lF .nil P)) g a b).ren τ) (nthP (cX (lF .nil (P ++ [e]) a)) b)
  rw [lF_snoc hP ha]
  by_cases h : a < k
  · rw [appF_lt _ _ h, if_pos h]; exact PEq.cl _ (tF_cl cX_cl _ a b)
  · obtain rfl : a = k := by omega
    rw [appF_ge _ _ (Nat.le_refl _), Nat.sub_self, if_neg h, hg]; exact PEq.cl _ (clL_nth _ b (cX_cl e))
/-! walks -/
theorem row_nil {τ : Nat → Option Nat} {f : Nat → Nat → PV} {g : Nat → Ex} : RowEq (Row.ren τ ⟨sOf 0, false, 0, 10, f⟩) (vRow cX 10 0 g) := ⟨rfl, rfl, Nat.le_refl 0, fun i hi => absurd hi (Nat.not_lt_zero i)⟩
theorem wS_mono {i n : Nat} (h : Nat → Nat) (hi : i ≤ n) : wS i h ≤ wS n h := by
  induction n with
  | zero => rw [show i = 0 by omega]; exact Nat.le_refl _
  | succ n ih =>
    by_cases e : i = n + 1
    · rw [e]; exact Nat.le_refl _
    · have := ih (by omega); simp only [wS]; omega
theorem bound_X {op vn vd um uh ud : Int} {nm : ByteArray} {cnt mode : Int} {nk : Nat} {kf : Nat → Ex} {E0 : List Ex} (h0 : E0.length ≤ 1) {i : Nat} (hi : i < nk) : (E0 ++ flatK i fun i => refsE (kf i)).length + (kf i).w ≤ (Ex.mk op vn vd um uh ud nm cnt mode nk kf).w := by
  have h1 := flatK_len (fun i => refsE (kf i)) (fun i => (kf i).w) i fun j _ => refs_len (kf j)
  have h2 := wS_mono (fun i => (kf i).w) (show i + 1 ≤ nk by omega)
  simp only [wS] at h2
  simp only [Ex.w, List.length_append]
  omega
set_option maxHeartbeats 16000000 in
theorem refs_own (op vn vd um uh ud : Int) (nm : ByteArray) (cnt mode : Int) (nk : Nat) (kf : Nat → Ex) (hnk : nk ≤ 1000000) (ih : ∀ i, i < nk → RefC (kf i)) (P : List Ex) (k : Nat) (hP : P.length = k + 1) (hw : P.length + (Ex.mk op vn vd um uh ud nm cnt mode nk kf).w ≤ 1000000) :
    RowsC G.P 68 [oRow cX 10 (k + 1) (lF .nil P)] [.lsl 0 0 (k + 1), vX (.mk op vn vd um uh ud nm cnt mode nk kf)] (OwnP P (refsE (.mk op vn vd um uh ud nm cnt mode nk kf))) := by
  have hlen := refs_len (.mk op vn vd um uh ud nm cnt mode nk kf)
  obtain ⟨E0, hE0⟩ : ∃ E0 : List Ex, E0 = (if op = 3 ∨ op = 4 then [(.mk op vn vd um uh ud nm cnt mode nk kf)] else []) := ⟨_, rfl⟩
  have h01 : E0.length ≤ 1 := by rw [hE0]; split <;> simp
  have hR : refsE (.mk op vn vd um uh ud nm cnt mode nk kf) = E0 ++ flatK nk fun i => refsE (kf i) := by rw [hE0]; rfl
  rw [hR]
  refine rows_of (G := G.toPg) (fn := Tryz.f68) Tryz.func68 rfl rfl rfl ?_; intro Γ hk
  replace hk : Γ.k0 = 1 := hk
  repeat' (first | refine gg ?_ | exact trivial | with_reducible refine wA ?_ ?_ | refine Y2.mk ?_ ?_ | refine gh ?_ | exact qq | fail)
  refine pcut (fun st => ∃ m, (P ++ E0).length = m + 1 ∧ (st = ⟨[(0, .lsl 0 0 (m + 1)), (3, .ptr 1 0 0)], [oRow cX 10 (m + 1) (lF .nil (P ++ E0)), rXE (.mk op vn vd um uh ud nm cnt mode nk kf)]⟩ ∨ ∃ (k' : Nat) (g' : Nat → Ex), st = ⟨[(0, .lsl 1 0 (m + 1)), (3, .ptr 2 0 0)], [oRow cX 10 k' g', oRow cX 10 (m + 1) (lF .nil (P ++ E0)), rXE (.mk op vn vd um uh ud nm cnt mode nk kf)]⟩)) ?_ ?_
  · refine pcond (b := decide (op = 3 ∨ op = 4)) ?_ ?_ ?_
    · refine eqB ?_
      show (bif op == 3 then true else op == 4) = _
      rw [bqd, bqd]
      by_cases e1 : op = 3 <;> simp [e1]
    · intro h
      have h := of_decide_eq_true h
      rw [if_pos h] at hE0
      subst hE0
      refine pregion ?_
      refine xo0 3 rfl (by exact ⟨trivial, Nat.zero_lt_one, trivial, trivial⟩) ?_
      show POps _ _ _ _ (_ :: _) _ _
      refine pop_app2 rfl rfl rfl rfl rfl rfl rfl rfl rfl rfl rfl rfl rfl rfl rfl trivial rfl (Nat.le_refl 1) (Nat.le_refl (k + 1)) (Nat.succ_pos k) Nat.zero_lt_one (show (k + 1 + 1) * 104 ≤ 140737488355328 by omega) (show k + 1 + 1 ≤ 9223372036854775807 by omega) rfl rfl ?_ ?_
      · repeat' (first | refine gg ?_ | exact trivial | with_reducible refine wA ?_ ?_ | refine Y2.mk ?_ ?_ | refine gh ?_ | exact qq | fail)
        exact kcut (st' := ⟨[(0, .lsl 0 0 (k + 1 + 1)), (3, .ptr 1 0 0)], [oRow cX 10 (k + 1 + 1) (lF .nil (P ++ [(.mk op vn vd um uh ud nm cnt mode nk kf)])), rXE (.mk op vn vd um uh ud nm cnt mode nk kf)]⟩) (can_rowsv [0, 1] (k0_sel hk rfl) rfl (.cons rfl (app_X hP rfl rfl rfl fun b => by show nthP _ (0 * 10 + b) = _; rw [Nat.zero_mul, Nat.zero_add]) (.cons rfl (RowEq.cl (rXE_cl _)) .nil)) tmq) ⟨k + 1, by simp [hP], .inl rfl⟩
      · repeat' (first | refine gg ?_ | exact trivial | with_reducible refine wA ?_ ?_ | refine Y2.mk ?_ ?_ | refine gh ?_ | exact qq | fail)
        exact kcut (st' := ⟨[(0, .lsl 1 0 (k + 1 + 1)), (3, .ptr 2 0 0)], [oRow cX 10 (k + 1) (lF .nil P), oRow cX 10 (k + 1 + 1) (lF .nil (P ++ [(.mk op vn vd um uh ud nm cnt mode nk kf)])), rXE (.mk op vn vd um uh ud nm cnt mode nk kf)]⟩) (can_rowsv [0, 3, 1] (k0_sel hk rfl) rfl (.cons rfl (RowEq.cl (oX_cl _ _)) (.cons rfl (app_X hP rfl rfl rfl fun b => by show nthP _ (0 * 10 + b) = _; rw [Nat.zero_mul, Nat.zero_add]) (.cons rfl (RowEq.cl (rXE_cl _)) .nil))) tmq) ⟨k + 1, by simp [hP], .inr ⟨_, _, rfl⟩⟩
    · intro h
      have h := of_decide_eq_false h
      rw [if_neg h] at hE0
      subst hE0
      repeat' (first | refine gg ?_ | exact trivial | with_reducible refine wA ?_ ?_ | refine Y2.mk ?_ ?_ | refine gh ?_ | exact qq | fail)
      exact kcut (st' := ⟨[(0, .lsl 0 0 (k + 1)), (3, .ptr 1 0 0)], [oRow cX 10 (k + 1) (lF .nil (P ++ [])), rXE (.mk op vn vd um uh ud nm cnt mode nk kf)]⟩) (can_rowsv [0, 1] (k0_sel hk rfl) rfl (.cons rfl (by rw [List.append_nil]; exact RowEq.cl (oX_cl _ _)) (.cons rfl (RowEq.cl (rXE_cl _)) .nil)) tmq) ⟨k, by rw [List.append_nil]; exact hP, .inl rfl⟩
  rintro _ ⟨m, hm, hst⟩
  have hJ : ∀ (m : Nat) (Q : List Ex) (i : Nat), i < nk → Q = P ++ E0 ++ flatK i (fun i => refsE (kf i)) → Q.length + (kf i).w ≤ 1000000 := fun m Q i hi hQ => by
    have := bound_X (op := op) (vn := vn) (vd := vd) (um := um) (uh := uh) (ud := ud) (nm := nm) (cnt := cnt) (mode := mode) (kf := kf) h01 hi
    rw [hQ, List.append_assoc, List.length_append]; omega
  have hJ0 : P ++ E0 = P ++ E0 ++ flatK 0 (fun i => refsE (kf i)) := (List.append_nil _).symm
  rcases hst with rfl | ⟨k', g', rfl⟩
  · repeat' (first | refine gg ?_ | exact trivial | with_reducible refine wA ?_ ?_ | refine Y2.mk ?_ ?_ | refine gh ?_ | exact qq | fail)
    refine pcan (st' := ⟨[(0, .lsl 0 0 (m + 1)), (20, .vsl nk 10 (tF cX kf)), (21, vi nk), (22, vi ((0 : Nat) : Int))], [oRow cX 10 (m + 1) (lF .nil (P ++ E0))]⟩) (can_rowsv [0] (k0_sel hk rfl) rfl (.cons rfl (RowEq.cl (oX_cl _ _)) .nil) tmq) ?_
    refine ploop (fun q st => ∃ (i m : Nat) (Q : List Ex), i ≤ nk ∧ Q = P ++ E0 ++ flatK i (fun i => refsE (kf i)) ∧ Q.length = m + 1 ∧ q = nk - i ∧ (st = ⟨[(0, .lsl 0 0 (m + 1)), (20, .vsl nk 10 (tF cX kf)), (21, vi nk), (22, vi i)], [oRow cX 10 (m + 1) (lF .nil Q)]⟩ ∨ ∃ (k' : Nat) (g' : Nat → Ex), st = ⟨[(0, .lsl 1 0 (m + 1)), (20, .vsl nk 10 (tF cX kf)), (21, vi nk), (22, vi i)], [oRow cX 10 k' g', oRow cX 10 (m + 1) (lF .nil Q)]⟩)) nk ⟨0, m, _, Nat.zero_le _, hJ0, hm, by omega, .inl rfl⟩ ?_
    clear hm
    rintro _ _ ⟨i, m, Q, hi, hQ, hQl, rfl, hst⟩
    have hw1 : IntKind.i64.wrap ((i : Int) + 1) = ((i + 1 : Nat) : Int) := w64 (by omega) (by omega)
    have hQ2 : i < nk → Q ++ refsE (kf i) = P ++ E0 ++ flatK (i + 1) (fun i => refsE (kf i)) := fun _ => by rw [hQ, List.append_assoc]; rfl
    rcases hst with rfl | ⟨k2, g2, rfl⟩
    · repeat' (first | refine gg ?_ | exact trivial | with_reducible refine wA ?_ ?_ | refine Y2.mk ?_ ?_ | refine gh ?_ | exact qq | fail)
      refine pcond rfl ?_ ?_ <;> intro hc
      · have hc : i < nk := by have := of_decide_eq_true hc; omega
        replace hQ2 := hQ2 hc
        have ihk := (ih i hc).own Q m hQl (hJ m Q i hc hQ)
        repeat' (first | refine gg ?_ | exact trivial | with_reducible refine wA ?_ ?_ | refine Y2.mk ?_ ?_ | refine gh ?_ | exact qq | fail)
        refine pop_rowsc [0] rfl rfl rfl rfl rfl rfl (.cons rfl trivial (RowEq.cl (oX_cl _ _)) .nil) ihk (by exact ⟨PEq.refl _, PEq.cl _ (fun i _ => clL_nth _ i (cX_cl _)), trivial⟩) ?_
        rintro r rows ⟨m2, hm2, ⟨rfl, rfl⟩ | ⟨k3, g3, rfl, rfl⟩⟩
        · refine ⟨_, _, rfl, ⟨oX_cl _ _, trivial⟩, rfl, ?_⟩
          repeat' (first | refine gg ?_ | exact trivial | with_reducible refine wA ?_ ?_ | refine Y2.mk ?_ ?_ | refine gh ?_ | exact qq | fail)
          rw [hw1]
          exact kloop_next (st' := ⟨[(0, .lsl 0 0 (m2 + 1)), (20, .vsl nk 10 (tF cX kf)), (21, vi nk), (22, vi ((i + 1 : Nat) : Int))], [oRow cX 10 (m2 + 1) (lF .nil (Q ++ refsE (kf i)))]⟩) (nk - (i + 1)) (can_rowsv [0] (k0_sel hk rfl) rfl (.cons rfl (RowEq.cl (oX_cl _ _)) .nil) tmq) (by omega) ⟨i + 1, m2, _, by omega, hQ2, hm2, rfl, .inl rfl⟩
        · refine ⟨_, _, rfl, ⟨oX_cl _ _, oX_cl _ _, trivial⟩, rfl, ?_⟩
          repeat' (first | refine gg ?_ | exact trivial | with_reducible refine wA ?_ ?_ | refine Y2.mk ?_ ?_ | refine gh ?_ | exact qq | fail)
          rw [hw1]
          exact kloop_next (st' := ⟨[(0, .lsl 1 0 (m2 + 1)), (20, .vsl nk 10 (tF cX kf)), (21, vi nk), (22, vi ((i + 1 : Nat) : Int))], [oRow cX 10 k3 g3, oRow cX 10 (m2 + 1) (lF .nil (Q ++ refsE (kf i)))]⟩) (nk - (i + 1)) (can_rowsv [0, 2] (k0_sel hk rfl) rfl (.cons rfl (RowEq.cl (oX_cl _ _)) (.cons rfl (RowEq.cl (oX_cl _ _)) .nil)) tmq) (by omega) ⟨i + 1, m2, _, by omega, hQ2, hm2, rfl, .inr ⟨_, _, rfl⟩⟩
      · have hin : i = nk := by have := of_decide_eq_false hc; omega
        subst hin
        repeat' (first | refine gg ?_ | exact trivial | with_reducible refine wA ?_ ?_ | refine Y2.mk ?_ ?_ | refine gh ?_ | exact qq | fail)
        refine kretr (st' := ⟨[(4, .lsl 0 0 (m + 1))], [oRow cX 10 (m + 1) (lF .nil Q)]⟩) (can_rowsv [0] (k0_sel hk rfl) rfl (.cons rfl (RowEq.cl (oX_cl _ _)) .nil) tmq) rfl ⟨trivial, trivial⟩ rfl ⟨m, by rw [← hQl, hQ, List.append_assoc], .inl ⟨rfl, by rw [hQ, List.append_assoc]⟩⟩
    · repeat' (first | refine gg ?_ | exact trivial | with_reducible refine wA ?_ ?_ | refine Y2.mk ?_ ?_ | refine gh ?_ | exact qq | fail)
      refine pcond rfl ?_ ?_ <;> intro hc
      · have hc : i < nk := by have := of_decide_eq_true hc; omega
        replace hQ2 := hQ2 hc
        have ihk := (ih i hc).own Q m hQl (hJ m Q i hc hQ)
        repeat' (first | refine gg ?_ | exact trivial | with_reducible refine wA ?_ ?_ | refine Y2.mk ?_ ?_ | refine gh ?_ | exact qq | fail)
        refine pop_rowsc [1] rfl rfl rfl rfl rfl rfl (.cons rfl trivial (RowEq.cl (oX_cl _ _)) .nil) ihk (by exact ⟨PEq.refl _, PEq.cl _ (fun i _ => clL_nth _ i (cX_cl _)), trivial⟩) ?_
        rintro r rows ⟨m2, hm2, ⟨rfl, rfl⟩ | ⟨k3, g3, rfl, rfl⟩⟩
        · refine ⟨_, _, rfl, ⟨oX_cl _ _, trivial⟩, rfl, ?_⟩
          repeat' (first | refine gg ?_ | exact trivial | with_reducible refine wA ?_ ?_ | refine Y2.mk ?_ ?_ | refine gh ?_ | exact qq | fail)
          rw [hw1]
          exact kloop_next (st' := ⟨[(0, .lsl 1 0 (m2 + 1)), (20, .vsl nk 10 (tF cX kf)), (21, vi nk), (22, vi ((i + 1 : Nat) : Int))], [oRow cX 10 k2 g2, oRow cX 10 (m2 + 1) (lF .nil (Q ++ refsE (kf i)))]⟩) (nk - (i + 1)) (can_rowsv [0, 1] (k0_sel hk rfl) rfl (.cons rfl (RowEq.cl (oX_cl _ _)) (.cons rfl (RowEq.cl (oX_cl _ _)) .nil)) tmq) (by omega) ⟨i + 1, m2, _, by omega, hQ2, hm2, rfl, .inr ⟨_, _, rfl⟩⟩
        · refine ⟨_, _, rfl, ⟨oX_cl _ _, oX_cl _ _, trivial⟩, rfl, ?_⟩
          repeat' (first | refine gg ?_ | exact trivial | with_reducible refine wA ?_ ?_ | refine Y2.mk ?_ ?_ | refine gh ?_ | exact qq | fail)
          rw [hw1]
          exact kloop_next (st' := ⟨[(0, .lsl 1 0 (m2 + 1)), (20, .vsl nk 10 (tF cX kf)), (21, vi nk), (22, vi ((i + 1 : Nat) : Int))], [oRow cX 10 k2 g2, oRow cX 10 (m2 + 1) (lF .nil (Q ++ refsE (kf i)))]⟩) (nk - (i + 1)) (can_rowsv [0, 3] (k0_sel hk rfl) rfl (.cons rfl (RowEq.cl (oX_cl _ _)) (.cons rfl (RowEq.cl (oX_cl _ _)) .nil)) tmq) (by omega) ⟨i + 1, m2, _, by omega, hQ2, hm2, rfl, .inr ⟨_, _, rfl⟩⟩
      · have hin : i = nk := by have := of_decide_eq_false hc; omega
        subst hin
        repeat' (first | refine gg ?_ | exact trivial | with_reducible refine wA ?_ ?_ | refine Y2.mk ?_ ?_ | refine gh ?_ | exact qq | fail)
        refine kretr (st' := ⟨[(4, .lsl 1 0 (m + 1))], [oRow cX 10 k2 g2, oRow cX 10 (m + 1) (lF .nil Q)]⟩) (can_rowsv [0, 1] (k0_sel hk rfl) rfl (.cons rfl (RowEq.cl (oX_cl _ _)) (.cons rfl (RowEq.cl (oX_cl _ _)) .nil)) tmq) rfl ⟨trivial, trivial⟩ rfl ⟨m, by rw [← hQl, hQ, List.append_assoc], .inr ⟨k2, g2, rfl, by rw [hQ, List.append_assoc]⟩⟩
  · repeat' (first | refine gg ?_ | exact trivial | with_reducible refine wA ?_ ?_ | refine Y2.mk ?_ ?_ | refine gh ?_ | exact qq | fail)
    refine pcan (st' := ⟨[(0, .lsl 1 0 (m + 1)), (20, .vsl nk 10 (tF cX kf)), (21, vi nk), (22, vi ((0 : Nat) : Int))], [oRow cX 10 k' g', oRow cX 10 (m + 1) (lF .nil (P ++ E0))]⟩) (can_rowsv [0, 1] (k0_sel hk rfl) rfl (.cons rfl (RowEq.cl (oX_cl _ _)) (.cons rfl (RowEq.cl (oX_cl _ _)) .nil)) tmq) ?_
    refine ploop (fun q st => ∃ (i m : Nat) (Q : List Ex), i ≤ nk ∧ Q = P ++ E0 ++ flatK i (fun i => refsE (kf i)) ∧ Q.length = m + 1 ∧ q = nk - i ∧ (st = ⟨[(0, .lsl 0 0 (m + 1)), (20, .vsl nk 10 (tF cX kf)), (21, vi nk), (22, vi i)], [oRow cX 10 (m + 1) (lF .nil Q)]⟩ ∨ ∃ (k' : Nat) (g' : Nat → Ex), st = ⟨[(0, .lsl 1 0 (m + 1)), (20, .vsl nk 10 (tF cX kf)), (21, vi nk), (22, vi i)], [oRow cX 10 k' g', oRow cX 10 (m + 1) (lF .nil Q)]⟩)) nk ⟨0, m, _, Nat.zero_le _, hJ0, hm, by omega, .inr ⟨k', g', rfl⟩⟩ ?_
    clear hm
    rintro _ _ ⟨i, m, Q, hi, hQ, hQl, rfl, hst⟩
    have hw1 : IntKind.i64.wrap ((i : Int) + 1) = ((i + 1 : Nat) : Int) := w64 (by omega) (by omega)
    have hQ2 : i < nk → Q ++ refsE (kf i) = P ++ E0 ++ flatK (i + 1) (fun i => refsE (kf i)) := fun _ => by rw [hQ, List.append_assoc]; rfl
    rcases hst with rfl | ⟨k2, g2, rfl⟩
    · repeat' (first | refine gg ?_ | exact trivial | with_reducible refine wA ?_ ?_ | refine Y2.mk ?_ ?_ | refine gh ?_ | exact qq | fail)
      refine pcond rfl ?_ ?_ <;> intro hc
      · have hc : i < nk := by have := of_decide_eq_true hc; omega
        replace hQ2 := hQ2 hc
        have ihk := (ih i hc).own Q m hQl (hJ m Q i hc hQ)
        repeat' (first | refine gg ?_ | exact trivial | with_reducible refine wA ?_ ?_ | refine Y2.mk ?_ ?_ | refine gh ?_ | exact qq | fail)
        refine pop_rowsc [0] rfl rfl rfl rfl rfl rfl (.cons rfl trivial (RowEq.cl (oX_cl _ _)) .nil) ihk (by exact ⟨PEq.refl _, PEq.cl _ (fun i _ => clL_nth _ i (cX_cl _)), trivial⟩) ?_
        rintro r rows ⟨m2, hm2, ⟨rfl, rfl⟩ | ⟨k3, g3, rfl, rfl⟩⟩
        · refine ⟨_, _, rfl, ⟨oX_cl _ _, trivial⟩, rfl, ?_⟩
          repeat' (first | refine gg ?_ | exact trivial | with_reducible refine wA ?_ ?_ | refine Y2.mk ?_ ?_ | refine gh ?_ | exact qq | fail)
          rw [hw1]
          exact kloop_next (st' := ⟨[(0, .lsl 0 0 (m2 + 1)), (20, .vsl nk 10 (tF cX kf)), (21, vi nk), (22, vi ((i + 1 : Nat) : Int))], [oRow cX 10 (m2 + 1) (lF .nil (Q ++ refsE (kf i)))]⟩) (nk - (i + 1)) (can_rowsv [0] (k0_sel hk rfl) rfl (.cons rfl (RowEq.cl (oX_cl _ _)) .nil) tmq) (by omega) ⟨i + 1, m2, _, by omega, hQ2, hm2, rfl, .inl rfl⟩
        · refine ⟨_, _, rfl, ⟨oX_cl _ _, oX_cl _ _, trivial⟩, rfl, ?_⟩
          repeat' (first | refine gg ?_ | exact trivial | with_reducible refine wA ?_ ?_ | refine Y2.mk ?_ ?_ | refine gh ?_ | exact qq | fail)
          rw [hw1]
          exact kloop_next (st' := ⟨[(0, .lsl 1 0 (m2 + 1)), (20, .vsl nk 10 (tF cX kf)), (21, vi nk), (22, vi ((i + 1 : Nat) : Int))], [oRow cX 10 k3 g3, oRow cX 10 (m2 + 1) (lF .nil (Q ++ refsE (kf i)))]⟩) (nk - (i + 1)) (can_rowsv [0, 2] (k0_sel hk rfl) rfl (.cons rfl (RowEq.cl (oX_cl _ _)) (.cons rfl (RowEq.cl (oX_cl _ _)) .nil)) tmq) (by omega) ⟨i + 1, m2, _, by omega, hQ2, hm2, rfl, .inr ⟨_, _, rfl⟩⟩
      · have hin : i = nk := by have := of_decide_eq_false hc; omega
        subst hin
        repeat' (first | refine gg ?_ | exact trivial | with_reducible refine wA ?_ ?_ | refine Y2.mk ?_ ?_ | refine gh ?_ | exact qq | fail)
        refine kretr (st' := ⟨[(4, .lsl 0 0 (m + 1))], [oRow cX 10 (m + 1) (lF .nil Q)]⟩) (can_rowsv [0] (k0_sel hk rfl) rfl (.cons rfl (RowEq.cl (oX_cl _ _)) .nil) tmq) rfl ⟨trivial, trivial⟩ rfl ⟨m, by rw [← hQl, hQ, List.append_assoc], .inl ⟨rfl, by rw [hQ, List.append_assoc]⟩⟩
    · repeat' (first | refine gg ?_ | exact trivial | with_reducible refine wA ?_ ?_ | refine Y2.mk ?_ ?_ | refine gh ?_ | exact qq | fail)
      refine pcond rfl ?_ ?_ <;> intro hc
      · have hc : i < nk := by have := of_decide_eq_true hc; omega
        replace hQ2 := hQ2 hc
        have ihk := (ih i hc).own Q m hQl (hJ m Q i hc hQ)
        repeat' (first | refine gg ?_ | exact trivial | with_reducible refine wA ?_ ?_ | refine Y2.mk ?_ ?_ | refine gh ?_ | exact qq | fail)
        refine pop_rowsc [1] rfl rfl rfl rfl rfl rfl (.cons rfl trivial (RowEq.cl (oX_cl _ _)) .nil) ihk (by exact ⟨PEq.refl _, PEq.cl _ (fun i _ => clL_nth _ i (cX_cl _)), trivial⟩) ?_
        rintro r rows ⟨m2, hm2, ⟨rfl, rfl⟩ | ⟨k3, g3, rfl, rfl⟩⟩
        · refine ⟨_, _, rfl, ⟨oX_cl _ _, trivial⟩, rfl, ?_⟩
          repeat' (first | refine gg ?_ | exact trivial | with_reducible refine wA ?_ ?_ | refine Y2.mk ?_ ?_ | refine gh ?_ | exact qq | fail)
          rw [hw1]
          exact kloop_next (st' := ⟨[(0, .lsl 1 0 (m2 + 1)), (20, .vsl nk 10 (tF cX kf)), (21, vi nk), (22, vi ((i + 1 : Nat) : Int))], [oRow cX 10 k2 g2, oRow cX 10 (m2 + 1) (lF .nil (Q ++ refsE (kf i)))]⟩) (nk - (i + 1)) (can_rowsv [0, 1] (k0_sel hk rfl) rfl (.cons rfl (RowEq.cl (oX_cl _ _)) (.cons rfl (RowEq.cl (oX_cl _ _)) .nil)) tmq) (by omega) ⟨i + 1, m2, _, by omega, hQ2, hm2, rfl, .inr ⟨_, _, rfl⟩⟩
        · refine ⟨_, _, rfl, ⟨oX_cl _ _, oX_cl _ _, trivial⟩, rfl, ?_⟩
          repeat' (first | refine gg ?_ | exact trivial | with_reducible refine wA ?_ ?_ | refine Y2.mk ?_ ?_ | refine gh ?_ | exact qq | fail)
          rw [hw1]
          exact kloop_next (st' := ⟨[(0, .lsl 1 0 (m2 + 1)), (20, .vsl nk 10 (tF cX kf)), (21, vi nk), (22, vi ((i + 1 : Nat) : Int))], [oRow cX 10 k2 g2, oRow cX 10 (m2 + 1) (lF .nil (Q ++ refsE (kf i)))]⟩) (nk - (i + 1)) (can_rowsv [0, 3] (k0_sel hk rfl) rfl (.cons rfl (RowEq.cl (oX_cl _ _)) (.cons rfl (RowEq.cl (oX_cl _ _)) .nil)) tmq) (by omega) ⟨i + 1, m2, _, by omega, hQ2, hm2, rfl, .inr ⟨_, _, rfl⟩⟩
      · have hin : i = nk := by have := of_decide_eq_false hc; omega
        subst hin
        repeat' (first | refine gg ?_ | exact trivial | with_reducible refine wA ?_ ?_ | refine Y2.mk ?_ ?_ | refine gh ?_ | exact qq | fail)
        refine kretr (st' := ⟨[(4, .lsl 1 0 (m + 1))], [oRow cX 10 k2 g2, oRow cX 10 (m + 1) (lF .nil Q)]⟩) (can_rowsv [0, 1] (k0_sel hk rfl) rfl (.cons rfl (RowEq.cl (oX_cl _ _)) (.cons rfl (RowEq.cl (oX_cl _ _)) .nil)) tmq) rfl ⟨trivial, trivial⟩ rfl ⟨m, by rw [← hQl, hQ, List.append_assoc], .inr ⟨k2, g2, rfl, by rw [hQ, List.append_assoc]⟩⟩
set_option maxHeartbeats 16000000 in
theorem refs_nil (op vn vd um uh ud : Int) (nm : ByteArray) (cnt mode : Int) (nk : Nat) (kf : Nat → Ex) (hnk : nk ≤ 1000000) (ih : ∀ i, i < nk → RefC (kf i)) (hw : (Ex.mk op vn vd um uh ud nm cnt mode nk kf).w ≤ 1000000) :
    RowsC G.P 68 [] [nilX, vX (.mk op vn vd um uh ud nm cnt mode nk kf)] (fun r rows => ∃ k, (refsE (.mk op vn vd um uh ud nm cnt mode nk kf)).length = k ∧ r = slP k 0 ∧ rows = [vRow cX 10 k (lF .nil (refsE (.mk op vn vd um uh ud nm cnt mode nk kf)))]) := by
  obtain ⟨E0, hE0⟩ : ∃ E0 : List Ex, E0 = (if op = 3 ∨ op = 4 then [(.mk op vn vd um uh ud nm cnt mode nk kf)] else []) := ⟨_, rfl⟩
  have h01 : E0.length ≤ 1 := by rw [hE0]; split <;> simp
  have hR : refsE (.mk op vn vd um uh ud nm cnt mode nk kf) = E0 ++ flatK nk fun i => refsE (kf i) := by rw [hE0]; rfl
  rw [hR]
  refine rows_of (G := G.toPg) (fn := Tryz.f68) Tryz.func68 rfl rfl rfl ?_; intro Γ hk
  replace hk : Γ.k0 = 0 := hk
  repeat' (first | refine gg ?_ | exact trivial | with_reducible refine wA ?_ ?_ | refine Y2.mk ?_ ?_ | refine gh ?_ | exact qq | fail)
  refine pcut (fun st => ∃ m, E0.length = m ∧ st = ⟨[(0, slP m 0), (3, .ptr 1 0 0)], [vRow cX 10 m (lF .nil E0), rXE (.mk op vn vd um uh ud nm cnt mode nk kf)]⟩) ?_ ?_
  · refine pcond (b := decide (op = 3 ∨ op = 4)) ?_ ?_ ?_
    · refine eqB ?_
      show (bif op == 3 then true else op == 4) = _
      rw [bqd, bqd]
      by_cases e1 : op = 3 <;> simp [e1]
    · intro h
      have h := of_decide_eq_true h
      rw [if_pos h] at hE0
      subst hE0
      repeat' (first | refine gg ?_ | exact trivial | with_reducible refine wA ?_ ?_ | refine Y2.mk ?_ ?_ | exact ⟨Nat.le_refl _, (by rw [hk]; exact Nat.le_of_ble_eq_true rfl), Nat.le_of_eq (Nat.zero_add _), (show (_ : Nat) * 104 ≤ 140737488355328 from by omega), (show (_ : Nat) ≤ 9223372036854775807 from by omega)⟩ | refine gh ?_ | exact qq | fail)
      exact kcut (st' := ⟨[(0, slP (0 + 1) 0), (3, .ptr 1 0 0)], [vRow cX 10 (0 + 1) (lF .nil ([] ++ [(.mk op vn vd um uh ud nm cnt mode nk kf)])), rXE (.mk op vn vd um uh ud nm cnt mode nk kf)]⟩) (can_rowsv [2, 0] (k0_sel hk rfl) rfl (.cons rfl (app_l0 cX_cl rfl rfl) (.cons rfl (RowEq.cl (rXE_cl _)) .nil)) tmq) ⟨0 + 1, rfl, rfl⟩
    · intro h
      have h := of_decide_eq_false h
      rw [if_neg h] at hE0
      subst hE0
      repeat' (first | refine gg ?_ | exact trivial | with_reducible refine wA ?_ ?_ | refine Y2.mk ?_ ?_ | refine gh ?_ | exact qq | fail)
      exact kcut (st' := ⟨[(0, slP 0 0), (3, .ptr 1 0 0)], [vRow cX 10 0 (lF .nil []), rXE (.mk op vn vd um uh ud nm cnt mode nk kf)]⟩) ((can_virt (vRow cX 10 0 (lF .nil [])) rfl).trans (can_rowsv [1, 0] (k0_sel hk rfl) rfl (.cons rfl (RowEq.cl (v_cl cX_cl _ _ _)) (.cons rfl (RowEq.cl (rXE_cl _)) .nil)) tmq)) ⟨0, rfl, rfl⟩
  rintro _ ⟨m, hm, rfl⟩
  have hJ : ∀ (Q : List Ex) (i : Nat), i < nk → Q = E0 ++ flatK i (fun i => refsE (kf i)) → Q.length + (kf i).w ≤ 1000000 := fun Q i hi hQ => by
    have := bound_X (op := op) (vn := vn) (vd := vd) (um := um) (uh := uh) (ud := ud) (nm := nm) (cnt := cnt) (mode := mode) (kf := kf) h01 hi
    rw [hQ]; omega
  repeat' (first | refine gg ?_ | exact trivial | with_reducible refine wA ?_ ?_ | refine Y2.mk ?_ ?_ | refine gh ?_ | exact qq | fail)
  refine pcan (st' := ⟨[(0, slP m 0), (20, .vsl nk 10 (tF cX kf)), (21, vi nk), (22, vi ((0 : Nat) : Int))], [vRow cX 10 m (lF .nil E0)]⟩) (can_rowsv [0] (k0_sel hk rfl) rfl (.cons rfl (RowEq.cl (v_cl cX_cl _ _ _)) .nil) (by exact ⟨peq_slP rfl, PEq.refl _, PEq.refl _, PEq.refl _, trivial⟩)) ?_
  refine ploop (fun q st => ∃ (i m : Nat) (Q : List Ex), i ≤ nk ∧ Q = E0 ++ flatK i (fun i => refsE (kf i)) ∧ Q.length = m ∧ q = nk - i ∧ st = ⟨[(0, slP m 0), (20, .vsl nk 10 (tF cX kf)), (21, vi nk), (22, vi i)], [vRow cX 10 m (lF .nil Q)]⟩) nk ⟨0, m, _, Nat.zero_le _, (List.append_nil _).symm, hm, by omega, rfl⟩ ?_
  clear hm
  rintro _ _ ⟨i, m, Q, hi, hQ, hQl, rfl, rfl⟩
  have hw1 : IntKind.i64.wrap ((i : Int) + 1) = ((i + 1 : Nat) : Int) := w64 (by omega) (by omega)
  have hQ2 : i < nk → Q ++ refsE (kf i) = E0 ++ flatK (i + 1) (fun i => refsE (kf i)) := fun _ => by rw [hQ, List.append_assoc]; rfl
  rcases m with _ | m
  · obtain rfl : Q = [] := List.length_eq_zero_iff.1 hQl
    repeat' (first | refine gg ?_ | exact trivial | with_reducible refine wA ?_ ?_ | refine Y2.mk ?_ ?_ | refine gh ?_ | exact qq | fail)
    refine pcond rfl ?_ ?_ <;> intro hc
    · have hc : i < nk := by have := of_decide_eq_true hc; omega
      replace hQ2 := hQ2 hc
      have ihk := (ih i hc).nil
      repeat' (first | refine gg ?_ | exact trivial | with_reducible refine wA ?_ ?_ | refine Y2.mk ?_ ?_ | refine gh ?_ | exact qq | fail)
      refine pop_rowsc [] rfl rfl rfl rfl rfl rfl .nil ihk (by exact ⟨PEq.refl _, PEq.cl _ (fun i _ => clL_nth _ i (cX_cl _)), trivial⟩) ?_
      rintro r rows ⟨k2, hk2, rfl, rfl⟩
      rcases k2 with _ | k2
      · refine ⟨_, _, rfl, ⟨v_cl cX_cl _ _ _, trivial⟩, rfl, ?_⟩
        repeat' (first | refine gg ?_ | exact trivial | with_reducible refine wA ?_ ?_ | refine Y2.mk ?_ ?_ | refine gh ?_ | exact qq | fail)
        rw [hw1]
        exact kloop_next (st' := ⟨[(0, slP 0 0), (20, .vsl nk 10 (tF cX kf)), (21, vi nk), (22, vi ((i + 1 : Nat) : Int))], [vRow cX 10 0 (lF .nil ([] ++ refsE (kf i)))]⟩) (nk - (i + 1)) (can_rowsv [0] (k0_sel hk rfl) rfl (.cons rfl row_nil .nil) tmq) (by omega) ⟨i + 1, 0, _, by omega, hQ2, by rw [List.nil_append]; exact hk2, rfl, rfl⟩
      · refine ⟨_, _, rfl, ⟨v_cl cX_cl _ _ _, trivial⟩, rfl, ?_⟩
        repeat' (first | refine gg ?_ | exact trivial | with_reducible refine wA ?_ ?_ | refine Y2.mk ?_ ?_ | refine gh ?_ | exact qq | fail)
        rw [hw1]
        exact kloop_next (st' := ⟨[(0, slP (k2 + 1) 0), (20, .vsl nk 10 (tF cX kf)), (21, vi nk), (22, vi ((i + 1 : Nat) : Int))], [vRow cX 10 (k2 + 1) (lF .nil ([] ++ refsE (kf i)))]⟩) (nk - (i + 1)) (can_rowsv [2] (k0_sel hk rfl) rfl (.cons rfl (RowEq.cl (v_cl cX_cl _ _ _)) .nil) tmq) (by omega) ⟨i + 1, (k2 + 1), _, by omega, hQ2, by rw [List.nil_append]; exact hk2, rfl, rfl⟩
    · have hin : i = nk := by have := of_decide_eq_false hc; omega
      subst hin
      repeat' (first | refine gg ?_ | exact trivial | with_reducible refine wA ?_ ?_ | refine Y2.mk ?_ ?_ | refine gh ?_ | exact qq | fail)
      refine kretr (st' := ⟨[(4, slP 0 0)], [vRow cX 10 0 (lF .nil [])]⟩) (can_rowsv [0] (k0_sel hk rfl) rfl (.cons rfl (RowEq.cl (v_cl cX_cl _ _ _)) .nil) tmq) rfl ⟨trivial, trivial⟩ rfl ⟨0, by rw [← hQ]; rfl, rfl, by rw [← hQ]⟩
  · repeat' (first | refine gg ?_ | exact trivial | with_reducible refine wA ?_ ?_ | refine Y2.mk ?_ ?_ | refine gh ?_ | exact qq | fail)
    refine pcond rfl ?_ ?_ <;> intro hc
    · have hc : i < nk := by have := of_decide_eq_true hc; omega
      replace hQ2 := hQ2 hc
      have ihk := (ih i hc).own Q m hQl (hJ Q i hc hQ)
      repeat' (first | refine gg ?_ | exact trivial | with_reducible refine wA ?_ ?_ | refine Y2.mk ?_ ?_ | refine gh ?_ | exact qq | fail)
      refine pop_rowsc [0] rfl rfl rfl rfl rfl rfl (.cons rfl trivial (RowEq.cl (oX_cl _ _)) .nil) ihk (by exact ⟨PEq.refl _, PEq.cl _ (fun i _ => clL_nth _ i (cX_cl _)), trivial⟩) ?_
      rintro r rows ⟨m2, hm2, ⟨rfl, rfl⟩ | ⟨k3, g3, rfl, rfl⟩⟩
      · refine ⟨_, _, rfl, ⟨oX_cl _ _, trivial⟩, rfl, ?_⟩
        repeat' (first | refine gg ?_ | exact trivial | with_reducible refine wA ?_ ?_ | refine Y2.mk ?_ ?_ | refine gh ?_ | exact qq | fail)
        rw [hw1]
        exact kloop_next (st' := ⟨[(0, slP (m2 + 1) 0), (20, .vsl nk 10 (tF cX kf)), (21, vi nk), (22, vi ((i + 1 : Nat) : Int))], [vRow cX 10 (m2 + 1) (lF .nil (Q ++ refsE (kf i)))]⟩) (nk - (i + 1)) (can_rowsv [0] (k0_sel hk rfl) rfl (.cons rfl (RowEq.cl (v_cl cX_cl _ _ _)) .nil) tmq) (by omega) ⟨i + 1, (m2 + 1), _, by omega, hQ2, hm2, rfl, rfl⟩
      · refine ⟨_, _, rfl, ⟨oX_cl _ _, oX_cl _ _, trivial⟩, rfl, ?_⟩
        repeat' (first | refine gg ?_ | exact trivial | with_reducible refine wA ?_ ?_ | refine Y2.mk ?_ ?_ | refine gh ?_ | exact qq | fail)
        rw [hw1]
        exact kloop_next (st' := ⟨[(0, slP (m2 + 1) 0), (20, .vsl nk 10 (tF cX kf)), (21, vi nk), (22, vi ((i + 1 : Nat) : Int))], [vRow cX 10 (m2 + 1) (lF .nil (Q ++ refsE (kf i)))]⟩) (nk - (i + 1)) (can_rowsv [2] (k0_sel hk rfl) rfl (.cons rfl (RowEq.cl (v_cl cX_cl _ _ _)) .nil) tmq) (by omega) ⟨i + 1, (m2 + 1), _, by omega, hQ2, hm2, rfl, rfl⟩
    · have hin : i = nk := by have := of_decide_eq_false hc; omega
      subst hin
      repeat' (first | refine gg ?_ | exact trivial | with_reducible refine wA ?_ ?_ | refine Y2.mk ?_ ?_ | refine gh ?_ | exact qq | fail)
      refine kretr (st' := ⟨[(4, slP (m + 1) 0)], [vRow cX 10 (m + 1) (lF .nil Q)]⟩) (can_rowsv [0] (k0_sel hk rfl) rfl (.cons rfl (RowEq.cl (v_cl cX_cl _ _ _)) .nil) tmq) rfl ⟨trivial, trivial⟩ rfl ⟨m + 1, by rw [← hQ]; exact hQl, rfl, by rw [← hQ]⟩
theorem refs_c : ∀ (n : Nat) (e : Ex), validS n e = true → e.w ≤ 900000 → RefC e
  | 0, _, h, _ => by cases h
  | n + 1, .nil, h, _ => absurd h (by rw [validS]; simp [Ex.nk, Ex.op, kidsN])
  | n + 1, .mk op vn vd um uh ud nm cnt mode nk kf, h, hw => by
    simp only [validS, Bool.and_eq_true, decide_eq_true_eq] at h
    obtain ⟨h1, _, h3⟩ := h
    have h1 : (nk : Int) = kidsN op := h1
    have h3 := allK_iff.1 h3
    have hk := kidsN_le op
    have ih : ∀ i, i < nk → RefC (kf i) := fun i hi => refs_c n (kf i) (h3 i hi) (Nat.le_trans (w_kid (e := .mk op vn vd um uh ud nm cnt mode nk kf) hi) hw)
    exact ⟨refs_nil op vn vd um uh ud nm cnt mode nk kf (by omega) ih (by omega), fun P k hP hw2 => refs_own op vn vd um uh ud nm cnt mode nk kf (by omega) ih P k hP hw2⟩
end Go.Proofs.YtcefhgomkehokaaGreat
namespace Go.Proofs.YtcefhgomkehokaaGreat
open Go.MapKept
open Go.ChangeMaps (setBlock)
section
variable {N : Nat} {Γ : Fr} {st : PSt} {ρ : Nat → Loc} {I : Nat → Prop} {a : Act} {w : World}
end
section
variable {G : Pg} {N : Nat} {Γ : Fr} {st : PSt} {K : Exit → PSt → Prop} {ops : Array Oper} {o : Oper} {rest : List Oper} {d l r : Nat} {x y z : Operand} {t : TypeId} {KT : Type} {kv : KT → Value} {m : List (KT × Int)} {s : List Nat}
end
end Go.Proofs.YtcefhgomkehokaaGreat
