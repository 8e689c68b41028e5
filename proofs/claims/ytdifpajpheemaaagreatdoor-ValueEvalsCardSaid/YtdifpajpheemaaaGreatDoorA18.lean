/- payrollgen: expressions of any height up to 5. -/
import Derived.Test.YtdifpajpheemaaaGreatDoorA13
import Derived.Test.YtdifpajpheemaaaGreatDoorA14
import Derived.Test.YtdifpajpheemaaaGreatDoorA15
import Derived.Test.YtdifpajpheemaaaGreatDoorA16
import Derived.Test.YtdifpajpheemaaaGreatDoorA17
import Derived.Test.YtdifpajpheemaaaGreatDoorA03
import Derived.Test.YtdifpajpheemaaaGreatDoorA04
import Derived.Test.YtdifpajpheemaaaGreatDoorA05
import Derived.Test.YtdifpajpheemaaaGreatDoorA11
import Derived.Test.YtdifpajpheemaaaGreatDoorA08
import Derived.Test.YtdifpajpheemaaaGreatDoorA07
import Derived.Test.YtdifpajpheemaaaGreatDoorA10
set_option linter.unusedSimpArgs false
set_option linter.unusedVariables false
set_option maxRecDepth 100000
namespace Go.Proofs.YtdifpajpheemaaaGreatDoor
set_option maxHeartbeats 4000000 in
theorem expr_one_t : XT 1 := by
  intro t ht rules
  simp only [tys5, List.mem_cons, List.not_mem_nil, or_false] at ht
  have l1 := leaf_number_t rules
  have l2 := leaf_money_t rules
  have l3 := leaf_hours_t rules
  have l4 := leaf_rate_t rules
  have l5 := leaf_truth_t rules
  intro n g at_ hn h1 h2
  rcases ht with rfl | rfl | rfl | rfl | rfl
  all_goals
    refine ptr_of (G := G.toPg) (fn := Tryz.f6) Tryz.func6 rfl rfl rfl ?_; intro Γ hk
    repeat' (first | refine yo ?_ ?_ | refine yw ?_ ?_ | refine yk ?_ ?_ | exact trivial | with_reducible refine wA ?_ ?_ | refine ys ?_ ?_ | refine xs_done ?_ | refine yl ?_ ?_ | refine w8 ?_ | refine w9 ?_ | refine w1 ?_ | refine w2 ?_ | refine w3 ?_ | refine w4 ?_ | refine w5 ?_ | refine w6 ?_ | refine w7 ?_ | refine yo0 ?_ ?_ | refine yw0 ?_ ?_ | exact qq | fail)
    rw [show decide (((1 : Nat) : Int) ≤ 1) = true from rfl]
    repeat' (first | refine yo ?_ ?_ | refine yw ?_ ?_ | refine yk ?_ ?_ | exact trivial | with_reducible refine wA ?_ ?_ | refine ys ?_ ?_ | refine xs_done ?_ | refine yl ?_ ?_ | (refine pop_gfalse rfl rfl rfl rfl ?_) | (refine t1 l1 hn ?_; rintro at_ _ b1 b2 ⟨e, rfl, he⟩) | (refine t2 l1 hn ?_; rintro at_ _ b1 b2 ⟨e, rfl, he⟩) | (refine t3 l1 hn ?_; rintro at_ _ b1 b2 ⟨e, rfl, he⟩) | (refine t1 l2 hn ?_; rintro at_ _ b1 b2 ⟨e, rfl, he⟩) | (refine t2 l2 hn ?_; rintro at_ _ b1 b2 ⟨e, rfl, he⟩) | (refine t3 l2 hn ?_; rintro at_ _ b1 b2 ⟨e, rfl, he⟩) | (refine t1 l3 hn ?_; rintro at_ _ b1 b2 ⟨e, rfl, he⟩) | (refine t2 l3 hn ?_; rintro at_ _ b1 b2 ⟨e, rfl, he⟩) | (refine t3 l3 hn ?_; rintro at_ _ b1 b2 ⟨e, rfl, he⟩) | (refine t1 l4 hn ?_; rintro at_ _ b1 b2 ⟨e, rfl, he⟩) | (refine t2 l4 hn ?_; rintro at_ _ b1 b2 ⟨e, rfl, he⟩) | (refine t3 l4 hn ?_; rintro at_ _ b1 b2 ⟨e, rfl, he⟩) | (refine t1 l5 hn ?_; rintro at_ _ b1 b2 ⟨e, rfl, he⟩) | (refine t2 l5 hn ?_; rintro at_ _ b1 b2 ⟨e, rfl, he⟩) | (refine t3 l5 hn ?_; rintro at_ _ b1 b2 ⟨e, rfl, he⟩) | refine w8 ?_ | refine w9 ?_ | refine w1 ?_ | refine w2 ?_ | refine w3 ?_ | refine w4 ?_ | refine w5 ?_ | refine w6 ?_ | refine w7 ?_ | refine yo0 ?_ ?_ | refine yw0 ?_ ?_ | exact qq | fail)
    refine xdone ?_
    exact ktap rfl b1 b2 rfl ⟨Nat.zero_lt_one, trivial⟩ rfl ⟨e, rfl, he⟩
theorem expr_up (k : Nat) (hk5 : k ≤ 100) (ih : XT (k + 1)) : XT (k + 2) := by
  intro t ht rules
  simp only [tys5, List.mem_cons, List.not_mem_nil, or_false] at ht
  rcases ht with rfl | rfl | rfl | rfl | rfl
  · exact expr_number_t k hk5 ih rules
  · exact expr_money_t k hk5 ih rules
  · exact expr_hours_t k hk5 ih rules
  · exact expr_rate_t k hk5 ih rules
  · exact expr_truth_t k hk5 ih rules
theorem expr_t : ∀ k, k ≤ 5 → XT (k + 1)
  | 0, _ => expr_one_t
  | k + 1, hk => expr_up k (by omega) (expr_t k (by omega))
end Go.Proofs.YtdifpajpheemaaaGreatDoor
namespace Go.Proofs.YtdifpajpheemaaaGreatDoor
def FSet (ρ : Nat → Loc) (mem : List Row) (L : List Nat) (b : Nat) : Prop := ∃ l r, l ∈ L ∧ mem[l]? = some r ∧ r.s.isOwn ∧ b = (ρ l).b
def ArgF (mem : List Row) (L : List Nat) (p q : PV) : Prop :=
  ∀ (ρ : Nat → Loc) (I : Nat → Prop) (w : World) (v : Value), MRel ρ I w mem → VRel mem.length ρ I w p v → VRel 0 ρ (FSet ρ mem L) w q v
def ArgsF (mem : List Row) (L : List Nat) : List PV → List PV → Prop
  | [], [] => True
  | p :: ps, q :: qs => ArgF mem L p q ∧ ArgsF mem L ps qs
  | _, _ => False
def PureF (P : Program) (f : FuncId) (args : List PV) (post : PV → Prop) : Prop :=
  CallOk P f ∧ ∀ (ρ : Nat → Loc) (A : Nat → Prop) (w : World) (vs : List Value), (∀ b, A b → b < w.heap.size) → GOk A w → ARel ρ A w args vs →
    Calls P f vs.toArray w fun e w' => ∃ v r, e = .returned v ∧ post r ∧ Ext w w' ∧ VRel 0 ρ (fun b => w.heap.size ≤ b ∧ b < w'.heap.size) w' r v
theorem PureF.pure {P : Program} {f : FuncId} {args : List PV} {post : PV → Prop} (h : PureF P f args post) : PureC P f args post :=
  ⟨h.1, fun ρ A w vs hA hG ha => (h.2 ρ A w vs hA hG ha).mono fun e w' ⟨v, r, h1, h2, h3, h4⟩ => ⟨v, r, h1, h2, h3, h4.up (Nat.le_refl _) (fun _ _ => rfl) (fun b hb => .inr hb) (Tr.refl _ _)⟩⟩
theorem PureF.mono {P : Program} {f : FuncId} {args : List PV} {post post' : PV → Prop} (h : PureF P f args post) (hp : ∀ r, post r → post' r) : PureF P f args post' :=
  ⟨h.1, fun ρ A w vs hA hG ha => (h.2 ρ A w vs hA hG ha).mono fun e w' ⟨v, r, h1, h2, h3⟩ => ⟨v, r, h1, hp r h2, h3⟩⟩
structure KretF (tab : List TI) (res : List ResultVar) (post : PV → Prop) (e : Exit) (st : PSt) : Prop where
  go : (e = .normal ∨ e = .ret) ∧ ∃ ps pre L qs, presl tab st res = some (ps, pre) ∧ pre ∧ ArgsF st.mem L ps qs ∧ post (pack qs)
section
variable {N : Nat} {Γ : Fr} {st : PSt} {K : Exit → PSt → Prop} {ops : Array Oper} {o : Oper} {rest : List Oper} {d : Nat}
end
theorem xs_startH {G : Pg2} {N : Nat} {Γ : Fr} {K : Exit → PSt → Prop} {ops : Array Oper} {st : PSt} {id : Nat} (H : List Nat) (fin : Bool) (sch : Sched) (m : Nat) (hn : ops.size = schLen sch + m) (hok : (Region.noSelect ops && schOk ops fin sch (Array.replicate (schLen sch + m) false)) = true) (h : PS G N Γ ops H true fin sch m (Array.replicate (schLen sch + m) false) st K) : PWp G.toPg N Γ (.region id ops true) st K := by
  simp only [Bool.and_eq_true] at hok
  exact pe_start H _ hn (h.go hok.1 hok.2)
theorem xs_growN {G : Pg2} {N : Nat} {Γ : Fr} {K : Exit → PSt → Prop} {ops : Array Oper} {st : PSt} {H : List Nat} {ni fin : Bool} {m : Nat} {ls : Array Bool} (l : Nat) {row : Row} {sch : Sched} (hnew : H.any (Nat.beq l) = false) (hr : rowAt st.mem l = some row) (hlive : row.s.live) (h : PS G N Γ ops (l :: H) ni fin sch m ls st K) : PS G N Γ ops H ni fin sch m ls st K := xs_grow l hr hlive h
def RowsF (mem : List Row) (L : List Nat) : List Row → List Row → Prop
  | [], [] => True
  | r :: rs, q :: qs => (r = q ∨ (r.s.live ∧ q.s = r.s ∧ q.sz = r.sz ∧ q.n = r.n ∧ ∀ i, i < r.n → ∀ j, j < r.sz → ArgOk mem L (r.f i j) (q.f i j))) ∧ RowsF mem L rs qs
  | _, _ => False
theorem RowsF.get {mem : List Row} {L : List Nat} : ∀ {rs qs : List Row}, RowsF mem L rs qs → rs.length = qs.length ∧ ∀ (l : Nat) (q : Row), qs[l]? = some q → ∃ r, rs[l]? = some r ∧ (r = q ∨ (r.s.live ∧ q.s = r.s ∧ q.sz = r.sz ∧ q.n = r.n ∧ ∀ i, i < r.n → ∀ j, j < r.sz → ArgOk mem L (r.f i j) (q.f i j)))
  | [], [], _ => ⟨rfl, fun l q h => by simp at h⟩
  | r :: rs, q :: qs, h => by
    obtain ⟨h1, h2⟩ := RowsF.get h.2
    refine ⟨by simp [h1], fun l x hx => ?_⟩
    cases l with
    | zero =>
      simp only [List.getElem?_cons_zero, Option.some.injEq] at hx
      subst hx
      exact ⟨r, rfl, h.1⟩
    | succ l => exact h2 l x (by simpa using hx)
  | [], _ :: _, h => h.elim
  | _ :: _, [], h => h.elim
section
variable {N : Nat} {Γ : Fr} {st : PSt}
theorem can_frzm (L : List Nat) {tm : List (Nat × PV)} {m rows : List Row} (hL : ∀ l, l ∈ L → Γ.k0 ≤ l) (hm0 : frzK L st.mem 0 some = some m) (ht : TmF st L tm) (hr : RowsF st.mem L m rows) : Can N Γ st ⟨tm, rows⟩ := fun ρ I a w h => by
  have hm : frzL L 0 st.mem = m := by rw [frzK_eq] at hm0; simpa using hm0
  subst hm
  have hf := h.freeze L hL
  obtain ⟨hlen, hget⟩ := hr.get
  have hlen2 : rows.length = st.mem.length := by rw [← hlen, frzL_length]
  have hs' := hf.slot
  simp only [frzL_length] at hs'
  have gs : ∀ (l : Nat) (q : Row), rows[l]? = some q → ∃ r, (frzL L 0 st.mem)[l]? = some r ∧ q.s = r.s := fun l q hq => by
    obtain ⟨r, e1, e2⟩ := hget l q hq
    refine ⟨r, e1, ?_⟩
    rcases e2 with rfl | ⟨_, e, _⟩
    · rfl
    · exact e
  refine ⟨ρ, _, ⟨⟨fun l q hq hl => ?_, fun l l' q q' hne hq hq' h1 h2 => ?_, fun l q hq ho => ?_, fun l q hq ho => ?_, hf.fr.m.lt, fun l q hq hmp => ?_, fun l l' q q' hne hq hq' h1 h2 => ?_⟩, hf.fr.os, hf.fr.tape, hf.fr.output, hf.fr.size, hf.fr.block, hf.fr.shape, hf.fr.old, hf.fr.new, fun l q hq ho hlt => ?_, fun l q hq ho hk => ?_, by rw [hlen2]; exact h.fr.k0, hf.fr.ρ0, fun l q hq ho hk => ?_, hf.fr.gl⟩, hf.defers, hf.size, fun t => ?_⟩
  · obtain ⟨r, e1, e2⟩ := hget l q hq
    rw [hlen2]
    rcases e2 with rfl | ⟨e2, e3, e4, e5, e6⟩
    · have := hf.fr.m.row l r e1 hl
      simp only [frzL_length] at this
      exact this
    · obtain ⟨r0, f1, f2, f3, f4, f5, _⟩ := frzL_get L st.mem 0 l r e1
      have hl0 : r0.s.live := by
        rcases f5 with f5 | ⟨_, f5, _⟩
        · rw [← f5]; exact e2
        · rw [f5]; trivial
      obtain ⟨h1, cs, T, h2, h3⟩ := h.fr.m.row l r0 f1 hl0
      refine ⟨h1.trans (f3.symm.trans e4.symm), cs, T, h2, fun i hi j hj => ?_⟩
      obtain ⟨u, g1, g2, g3⟩ := h3 i (by rw [← f2, ← e5]; exact hi) j (by rw [← f3, ← e4]; exact hj)
      refine ⟨u, by rw [e4, f3]; exact g1, g2, ?_⟩
      have := e6 i (by rw [← e5]; exact hi) j (by rw [← e4]; exact hj)
      rw [f4] at this
      exact (this ρ I w u h.fr.m g3).of0
  · obtain ⟨r, e1, e2⟩ := gs l q hq
    obtain ⟨r', f1, f2⟩ := gs l' q' hq'
    exact hf.fr.m.apart l l' r r' hne e1 f1 (by rw [← e2]; exact h1) (by rw [← f2]; exact h2)
  · obtain ⟨r, e1, e2⟩ := gs l q hq
    exact hf.fr.m.mine l r e1 (by rw [← e2]; exact ho)
  · obtain ⟨r, e1, e2⟩ := gs l q hq
    exact hf.fr.m.imm l r e1 (by rw [← e2]; exact ho)
  · obtain ⟨r, e1, e2⟩ := hget l q hq
    rcases e2 with rfl | ⟨e2, e3, _⟩
    · have := hf.fr.m.side l r e1 hmp
      rw [frzL_length] at this
      rw [hlen2]
      exact this
    · rw [e3] at hmp; rw [hmp] at e2; exact e2.elim
  · obtain ⟨r, e1, e2⟩ := gs l q hq
    obtain ⟨r', f1, f2⟩ := gs l' q' hq'
    exact hf.fr.m.sap l l' r r' hne e1 f1 (by rw [← e2]; exact h1) (by rw [← f2]; exact h2)
  · obtain ⟨r, e1, e2⟩ := gs l q hq
    exact hf.fr.own l r e1 (by rw [← e2]; exact ho) hlt
  · obtain ⟨r, e1, e2⟩ := gs l q hq
    exact hf.fr.fresh l r e1 (by rw [← e2]; exact ho) hk
  · obtain ⟨r, e1, e2⟩ := gs l q hq
    exact hf.fr.sfresh l r e1 (by rw [← e2]; exact ho) hk
  · rw [hlen2]
    exact tmF_slot h.fr.m h.slot hs' tm ht t
theorem RowsF.set {mem : List Row} {L : List Nat} {r' : Row} : ∀ {m : List Row} {b : Nat} {r : Row}, m[b]? = some r → (r.s.live ∧ r'.s = r.s ∧ r'.sz = r.sz ∧ r'.n = r.n ∧ ∀ i, i < r.n → ∀ j, j < r.sz → ArgOk mem L (r.f i j) (r'.f i j)) → RowsF mem L m (m.set b r')
  | [], _, _, h, _ => by simp at h
  | x :: m, 0, r, h, hc => by
    simp only [List.getElem?_cons_zero, Option.some.injEq] at h
    subst h
    refine ⟨.inr hc, ?_⟩
    have : ∀ m : List Row, RowsF mem L m m := by
      intro m
      induction m with
      | nil => trivial
      | cons x m ih => exact ⟨.inl rfl, ih⟩
    exact this m
  | x :: m, b + 1, r, h, hc => ⟨.inl rfl, RowsF.set (by simpa using h) hc⟩
theorem can_frzb (L : List Nat) (b : Nat) (f' : Nat → Nat → PV) {one : Bool} {n sz : Nat} {f : Nat → Nat → PV} {tm : List (Nat × PV)} {m rows : List Row} (hL : ∀ l, l ∈ L → Γ.k0 ≤ l) (hm0 : frzK L st.mem 0 some = some m) (hb : rowAt m b = some ⟨.own, one, n, sz, f⟩) (hset : setM m b ⟨.own, one, n, sz, f'⟩ some = some rows) (hc : ∀ i, i < n → ∀ j, j < sz → ArgOk st.mem L (f i j) (f' i j)) (ht : TmF st L tm) : Can N Γ st ⟨tm, rows⟩ := by
  have e : rows = m.set b ⟨.own, one, n, sz, f'⟩ := by rw [setM_eq] at hset; exact (Option.some.inj hset).symm
  subst e
  rw [rowAt_get] at hb
  exact can_frzm L hL hm0 ht (RowsF.set hb ⟨trivial, rfl, rfl, rfl, hc⟩)
end
end Go.Proofs.YtdifpajpheemaaaGreatDoor
namespace Go.Proofs.YtdifpajpheemaaaGreatDoor
abbrev dE : En := (0, 0, 0)
structure EnOk (E : List En) (key : Int) : Prop where
  asc : E.Pairwise (fun a b => a.1 < b.1)
  all : ∀ e, e ∈ E → 0 ≤ e.1 ∧ e.1 < key ∧ e.2 ∈ decL
theorem EnOk.snoc {E : List En} {key : Int} (h : EnOk E key) (h0 : 0 ≤ key) {x : Int × Int} (hx : x ∈ decL) {k' : Int} (hk : key < k') : EnOk (E ++ [(key, x)]) k' := by
  refine ⟨List.pairwise_append.2 ⟨h.asc, by simp, fun a ha b hb => ?_⟩, fun e he => ?_⟩
  · obtain rfl : b = (key, x) := by simpa using hb
    exact (h.all a ha).2.1
  · rcases List.mem_append.1 he with he | he
    · have := h.all e he; exact ⟨this.1, by omega, this.2.2⟩
    · obtain rfl : e = (key, x) := by simpa using he
      exact ⟨h0, hk, hx⟩
theorem dec_ok : ∀ x ∈ decL, -9223372036854775808 ≤ x.1 ∧ x.1 ≤ 9223372036854775807 ∧ decS x.1 x.2 = true := by decide +kernel
theorem EnOk.ents {E : List En} {key : Int} (h : EnOk E key) (hk : key ≤ 1000000) (h1 : 1 ≤ E.length) (h2 : E.length ≤ 64) : entsS E.length (lF dE E) = true := by
  have hg : ∀ i (hi : i < E.length), lF dE E i = E[i] := fun i hi => by unfold lF; rw [List.getD_eq_getElem?_getD, List.getElem?_eq_getElem hi]; rfl
  unfold entsS
  rw [decide_eq_true (by omega : 1 ≤ E.length ∧ E.length ≤ 64), Bool.true_and, allK_iff]
  intro i hi
  have ha := h.all _ (List.getElem_mem hi)
  have hd := (dec_ok _ ha.2.2).2.2
  rw [hg i hi, hd, Bool.and_true, decide_eq_true_eq]
  refine ⟨?_, by omega⟩
  by_cases h0 : i = 0
  · rw [if_pos h0]; omega
  · rw [if_neg h0, hg (i - 1) (by omega)]
    exact List.pairwise_iff_getElem.1 h.asc (i - 1) i (by omega) hi (by omega)
structure ScOk (nm : ByteArray) (t : Ty) (day : Int) (d : Df) : Prop where
  eq : d = ⟨2, nm, t, day, d.ne, d.ef, .nil, 0, 0, 0⟩
  en : entsS d.ne d.ef = true
  ef : ∀ i, i < d.ne → -9223372036854775808 ≤ (d.ef i).2.1 ∧ (d.ef i).2.1 ≤ 9223372036854775807
  ne : d.ne ≤ 64
  dl : ∀ i, i < d.ne → (d.ef i).2 ∈ decL ∧ -1000000000000 ≤ (d.ef i).1 ∧ (d.ef i).1 ≤ 1000000000000
abbrev rScl (nm : ByteArray) (t : Ty) (day : Int) (k l : Nat) : List PV := [vi 2, vs nm, vb t.b, vi t.m, vi t.h, vi t.d, vi day, slP k l, vi 0, vi 0, vi 0, vi 0, vi 0, vi 0, vs ⟨#[]⟩, vi 0, vi 0, .val (.slice none 0 0), vi 0, vi 0, vi 0]
abbrev zD : List PV := [vi 0, vs ⟨#[]⟩, vb false, vi 0, vi 0, vi 0, vi 0, .val (.slice none 0 0), vi 0, vi 0, vi 0, vi 0, vi 0, vi 0, vs ⟨#[]⟩, vi 0, vi 0, .val (.slice none 0 0), vi 0, vi 0, vi 0]
theorem argSc19 {mem : List Row} {L : List Nat} {nm : ByteArray} {t : Ty} {day : Int} {p : PV} {ne : Nat} {ef : Nat → En} (h : ArgOk mem L p (.vsl ne 3 (tF cN3 ef))) : ArgOk mem L (.agg 21 (nthP [vi 2, vs nm, vb t.b, vi t.m, vi t.h, vi t.d, vi day, p, vi 0, vi 0, vi 0, vi 0, vi 0, vi 0, vs ⟨#[]⟩, vi 0, vi 0, .val (.slice none 0 0), vi 0, vi 0, vi 0])) (vD ⟨2, nm, t, day, ne, ef, .nil, 0, 0, 0⟩) := argAggL fun i hi => by
  rcases (by omega : i = 0 ∨ i = 1 ∨ i = 2 ∨ i = 3 ∨ i = 4 ∨ i = 5 ∨ i = 6 ∨ i = 7 ∨ i = 8 ∨ i = 9 ∨ i = 10 ∨ i = 11 ∨ i = 12 ∨ i = 13 ∨ i = 14 ∨ i = 15 ∨ i = 16 ∨ i = 17 ∨ i = 18 ∨ i = 19 ∨ i = 20) with rfl | rfl | rfl | rfl | rfl | rfl | rfl | rfl | rfl | rfl | rfl | rfl | rfl | rfl | rfl | rfl | rfl | rfl | rfl | rfl | rfl
  · exact argVal
  · exact argVal
  · exact argVal
  · exact argVal
  · exact argVal
  · exact argVal
  · exact argVal
  · exact h
  · exact argVal
  · exact argVal
  · exact argVal
  · exact argVal
  · exact argVal
  · exact argVal
  · exact argVal
  · exact argVal
  · exact argVal
  · exact argNil
  · exact argVal
  · exact argVal
  · exact argVal
set_option maxHeartbeats 4000000 in
theorem scale_t (nm : ByteArray) (t : Ty) (day : Int) : TapC G.P 36 [vs nm, vT t, vi day] (fun r => ∃ d : Df, r = vD d ∧ ScOk nm t day d) := by
  intro n g at_ hn h1 h2
  refine ptr_of (G := G.toPg) (fn := Tryz.f36) Tryz.func36 rfl rfl rfl ?_; intro Γ hk
  repeat' (first | refine yo ?_ ?_ | refine yw ?_ ?_ | refine yk ?_ ?_ | exact trivial | with_reducible refine wA ?_ ?_ | refine ys ?_ ?_ | refine xs_done ?_ | refine yl ?_ ?_ | (refine tn1 hn ?_; rintro at_ b1 b2 x hx1 hx2) | refine w8 ?_ | refine w9 ?_ | refine w1 ?_ | refine w2 ?_ | refine w3 ?_ | refine w4 ?_ | refine w5 ?_ | refine w6 ?_ | refine w7 ?_ | refine yo0 ?_ ?_ | refine yw0 ?_ ?_ | exact qq | fail)
  rename_i key hk1 hk2
  obtain ⟨X, rfl⟩ := Int.eq_ofNat_of_zero_le hx1
  have hw : IntKind.i64.wrap (1 + (X : Int)) = ((X + 1 : Nat) : Int) := by rw [w64 (by omega) (by omega)]; omega
  rw [hw]
  refine pcan (can_virt (vRow cN3 3 0 (lF dE [])) rfl) ?_
  refine pcan (st' := ⟨[(0, .ptr 0 0 0), (8, .ptr 1 0 0), (9, .ptr 2 0 0), (10, vi key), (11, vi ((X + 1 : Nat) : Int))], [tapeRow n g at_, ⟨.own, true, 1, 21, fun _ => nthP zD⟩, ⟨.own, true, 1, 21, fun _ => nthP (rScl nm t day 0 3)⟩, vRow cN3 3 0 (lF dE [])]⟩) (can_rowsv [0, 2, 3, 4] (k0_sel hk rfl) rfl (.cons rfl (RowEq.cl (tape_cl _ _ _)) (.cons rfl rqq (.cons rfl rqq (.cons rfl (RowEq.cl (v_cl cN3_cl _ _ _)) .nil)))) (by (repeat refine ⟨PEq.refl _, ?_⟩); exact trivial)) ?_
  refine ploop (fun q st => ∃ (at' : Int) (i k : Nat) (E : List En) (ky : Int), 0 ≤ at' ∧ at' ≤ n ∧ E.length = k ∧ k + i = X + 1 ∧ q = i ∧ EnOk E ky ∧ 0 ≤ ky ∧ ky ≤ 1 + 4 * k ∧ st = ⟨[(0, .ptr 0 0 0), (8, .ptr 1 0 0), (9, .ptr 2 0 0), (10, vi ky), (11, vi i)], [tapeRow n g at', ⟨.own, true, 1, 21, fun _ => nthP zD⟩, ⟨.own, true, 1, 21, fun _ => nthP (rScl nm t day k 3)⟩, vRow cN3 3 k (lF dE E)]⟩) (X + 1) ⟨at_, X + 1, 0, [], key, b1, b2, rfl, by omega, rfl, ⟨List.Pairwise.nil, by simp⟩, hk1, by omega, rfl⟩ ?_
  rintro i _ ⟨at', _, k, E, ky, b1, b2, hEk, hki, rfl, hE, hky0, hky1, rfl⟩
  repeat' (first | refine yo ?_ ?_ | refine yw ?_ ?_ | refine yk ?_ ?_ | exact trivial | with_reducible refine wA ?_ ?_ | refine ys ?_ ?_ | refine xs_done ?_ | refine yl ?_ ?_ | refine w8 ?_ | refine w9 ?_ | refine w1 ?_ | refine w2 ?_ | refine w3 ?_ | refine w4 ?_ | refine w5 ?_ | refine w6 ?_ | refine w7 ?_ | refine yo0 ?_ ?_ | refine yw0 ?_ ?_ | exact qq | fail)
  refine pcond rfl ?_ ?_ <;> intro hc <;> simp at hc
  · have hwi : IntKind.i64.wrap ((i : Int) - 1) = ((i - 1 : Nat) : Int) := by rw [w64 (by omega) (by omega)]; omega
    rcases k with _ | k
    · repeat' (first | refine yo ?_ ?_ | refine yw ?_ ?_ | refine yk ?_ ?_ | exact trivial | with_reducible refine wA ?_ ?_ | refine ys ?_ ?_ | refine xs_done ?_ | refine yl ?_ ?_ | refine xs_startH (id := 6) [1,2] true [.take 0, .take 1, .take 2, .take 3, .one 4, .take 5, .one 6, .one 7, .take 8, .one 9] 0 rfl (by kernel_rfl) ?_ | (refine t1 decimal_t hn ?_; rintro at_ _ b1 b2 ⟨y, rfl, hy⟩) | (refine t2 decimal_t hn ?_; rintro at_ _ b1 b2 ⟨y, rfl, hy⟩) | (refine t3 decimal_t hn ?_; rintro at_ _ b1 b2 ⟨y, rfl, hy⟩) | exact ⟨Nat.le_refl _, (by rw [hk]; exact Nat.le_of_ble_eq_true rfl), Nat.le_of_eq (Nat.zero_add _), (show (_ : Nat) * 24 ≤ 140737488355328 from by omega), (show (_ : Nat) ≤ 9223372036854775807 from by omega)⟩ | (refine tn1 hn ?_; rintro at_ b1 b2 x hx1 hx2) | refine w8 ?_ | refine w9 ?_ | refine w1 ?_ | refine w2 ?_ | refine w3 ?_ | refine w4 ?_ | refine w5 ?_ | refine w6 ?_ | refine w7 ?_ | refine yo0 ?_ ?_ | refine yw0 ?_ ?_ | exact qq | fail)
      refine xdone ?_
      have hwz : IntKind.i64.wrap (ky + IntKind.i64.wrap (1 + x)) = ky + (1 + x) := by rw [w64 (n := 1 + x) (by omega) (by omega), w64 (by omega) (by omega)]
      rw [hwz, hwi]
      exact kloop_next (st' := ⟨[(0, .ptr 0 0 0), (8, .ptr 1 0 0), (9, .ptr 2 0 0), (10, vi (ky + (1 + x))), (11, vi ((i - 1 : Nat) : Int))], [tapeRow n g _, ⟨.own, true, 1, 21, fun _ => nthP zD⟩, ⟨.own, true, 1, 21, fun _ => nthP (rScl nm t day (0 + 1) 3)⟩, vRow cN3 3 (0 + 1) (lF dE (E ++ [(ky, y)]))]⟩) (i - 1) (can_rowsv [0, 1, 2, 5] (k0_sel hk rfl) rfl (.cons rfl (RowEq.cl (tape_cl _ _ _)) (.cons rfl rqq (.cons rfl rqq (.cons rfl (by first | exact app_l cN3_cl (by assumption) rfl rfl | exact app_l0 cN3_cl (by assumption) rfl) .nil)))) tmq) (by omega) ⟨_, i - 1, 0 + 1, _, _, b1, b2, by rw [List.length_append, hEk]; rfl, by omega, rfl, hE.snoc hky0 hy (by omega), by omega, by omega, rfl⟩
    · repeat' (first | refine yo ?_ ?_ | refine yw ?_ ?_ | refine yk ?_ ?_ | exact trivial | with_reducible refine wA ?_ ?_ | refine ys ?_ ?_ | refine xs_done ?_ | refine yl ?_ ?_ | refine xs_startH (id := 6) [1,2] true [.take 0, .take 1, .take 2, .take 3, .one 4, .take 5, .one 6, .one 7, .take 8, .one 9] 0 rfl (by kernel_rfl) ?_ | (refine t1 decimal_t hn ?_; rintro at_ _ b1 b2 ⟨y, rfl, hy⟩) | (refine t2 decimal_t hn ?_; rintro at_ _ b1 b2 ⟨y, rfl, hy⟩) | (refine t3 decimal_t hn ?_; rintro at_ _ b1 b2 ⟨y, rfl, hy⟩) | exact ⟨Nat.le_refl _, (by rw [hk]; exact Nat.le_of_ble_eq_true rfl), Nat.le_of_eq (Nat.zero_add _), (show (_ : Nat) * 24 ≤ 140737488355328 from by omega), (show (_ : Nat) ≤ 9223372036854775807 from by omega)⟩ | (refine tn1 hn ?_; rintro at_ b1 b2 x hx1 hx2) | refine w8 ?_ | refine w9 ?_ | refine w1 ?_ | refine w2 ?_ | refine w3 ?_ | refine w4 ?_ | refine w5 ?_ | refine w6 ?_ | refine w7 ?_ | refine yo0 ?_ ?_ | refine yw0 ?_ ?_ | exact qq | fail)
      refine xdone ?_
      have hwz : IntKind.i64.wrap (ky + IntKind.i64.wrap (1 + x)) = ky + (1 + x) := by rw [w64 (n := 1 + x) (by omega) (by omega), w64 (by omega) (by omega)]
      rw [hwz, hwi]
      exact kloop_next (st' := ⟨[(0, .ptr 0 0 0), (8, .ptr 1 0 0), (9, .ptr 2 0 0), (10, vi (ky + (1 + x))), (11, vi ((i - 1 : Nat) : Int))], [tapeRow n g _, ⟨.own, true, 1, 21, fun _ => nthP zD⟩, ⟨.own, true, 1, 21, fun _ => nthP (rScl nm t day ((k + 1) + 1) 3)⟩, vRow cN3 3 ((k + 1) + 1) (lF dE (E ++ [(ky, y)]))]⟩) (i - 1) (can_rowsv [0, 1, 2, 5] (k0_sel hk rfl) rfl (.cons rfl (RowEq.cl (tape_cl _ _ _)) (.cons rfl rqq (.cons rfl rqq (.cons rfl (by first | exact app_l cN3_cl (by assumption) rfl rfl | exact app_l0 cN3_cl (by assumption) rfl) .nil)))) tmq) (by omega) ⟨_, i - 1, (k + 1) + 1, _, _, b1, b2, by rw [List.length_append, hEk]; rfl, by omega, rfl, hE.snoc hky0 hy (by omega), by omega, by omega, rfl⟩
  · obtain rfl : i = 0 := by omega
    rcases k with _ | k
    · omega
    · repeat' (first | refine yo ?_ ?_ | refine yw ?_ ?_ | refine yk ?_ ?_ | exact trivial | with_reducible refine wA ?_ ?_ | refine ys ?_ ?_ | refine xs_done ?_ | refine yl ?_ ?_ | refine w8 ?_ | refine w9 ?_ | refine w1 ?_ | refine w2 ?_ | refine w3 ?_ | refine w4 ?_ | refine w5 ?_ | refine w6 ?_ | refine w7 ?_ | refine yo0 ?_ ?_ | refine yw0 ?_ ?_ | exact qq | fail)
      refine ktapL [3] (qs := [vD ⟨2, nm, t, day, k + 1, lF dE E, .nil, 0, 0, 0⟩]) rfl b1 b2 (by simp) rfl ⟨Nat.zero_lt_one, trivial⟩ ⟨argSc19 (arg_o (s := .own) cN3_cl rfl trivial (List.Mem.head _)), trivial⟩ ⟨_, rfl, rfl, ?_, ?_, ?_, ?_⟩
      · show entsS (k + 1) _ = true
        rw [← hEk]; exact hE.ents (by omega) (by omega) (by omega)
      · intro i hi
        have hi : i < k + 1 := hi
        have hm : lF dE E i ∈ E := by unfold lF; rw [List.getD_eq_getElem?_getD, List.getElem?_eq_getElem (by omega)]; exact List.getElem_mem _
        have := dec_ok _ (hE.all _ hm).2.2
        exact ⟨this.1, this.2.1⟩
      · show k + 1 ≤ 64; omega
      · intro i hi
        have hi : i < k + 1 := hi
        have hm : lF dE E i ∈ E := by unfold lF; rw [List.getD_eq_getElem?_getD, List.getElem?_eq_getElem (by omega)]; exact List.getElem_mem _
        obtain ⟨e1, e2, e3⟩ := hE.all _ hm
        exact ⟨e3, show -1000000000000 ≤ (lF dE E i).1 by omega, show (lF dE E i).1 ≤ 1000000000000 by omega⟩
end Go.Proofs.YtdifpajpheemaaaGreatDoor
namespace Go.Proofs.YtdifpajpheemaaaGreatDoor
theorem take_snoc {α : Type} {d : α} {l : List α} {n : Nat} (h : n < l.length) : l.take (n + 1) = l.take n ++ [lF d l n] := by
  rw [List.take_succ_eq_append_getElem h]
  unfold lF; rw [List.getD_eq_getElem?_getD, List.getElem?_eq_getElem h]; rfl
abbrev cSt (x : ByteArray) : List PV := [vs x]
theorem cSt_cl : CellsCl cSt := fun _ => ⟨trivial, trivial⟩
def dropS : Nat → Code → Code
  | 0, c => c
  | n + 1, .seq _ b => dropS n b
  | _, c => c
theorem pcutx {G : Pg} {N : Nat} {Γ : Fr} {st : PSt} {K : Exit → PSt → Prop} {x y : Code} {id : Nat} (M : PSt → Prop) (h : PWp G N Γ x st (Kblock id (Kcut N Γ M K))) (hy : ∀ st, M st → PWp G N Γ y st K) : PWp G N Γ x st (Kblock id (Kseq G N Γ y K)) := .mk fun ρ I a w hr =>
  wp_mono (h.go ρ I a w hr) fun e a w ⟨h1, st, ρ, I, h2, h3⟩ => by
    have nrm : Kcut N Γ M K .normal st → ∃ st ρ I, Kseq G N Γ y K .normal st ∧ Rel N Γ st ρ I a w := fun hc => by
      obtain ⟨st', hc, hm⟩ := hc.go
      obtain ⟨ρ', I', hr'⟩ := hc ρ I a w h3
      exact ⟨st', ρ', I', kseq_normal (hy st' hm), hr'⟩
    have h2 := h2.go
    cases e with
    | normal =>
      obtain ⟨st', ρ', I', h4, h5⟩ := nrm h2
      exact ⟨h1, st', ρ', I', ⟨h4⟩, h5⟩
    | exit i =>
      have h2 : (bif Nat.beq i id then Kcut N Γ M K .normal st else Kcut N Γ M K (.exit i) st) := h2
      cases hb : Nat.beq i id
      · rw [hb] at h2
        exact ⟨h1, st, ρ, I, ⟨show (bif Nat.beq i id then _ else _ : Prop) from by rw [hb]; exact ⟨h2.go⟩⟩, h3⟩
      · rw [hb] at h2
        obtain ⟨st', ρ', I', h4, h5⟩ := nrm h2
        exact ⟨h1, st', ρ', I', ⟨show (bif Nat.beq i id then _ else _ : Prop) from by rw [hb]; exact h4⟩, h5⟩
    | _ => exact ⟨h1, st, ρ, I, ⟨⟨h2.go⟩⟩, h3⟩
section
variable {G : Pg2} {N : Nat} {Γ : Fr} {K : Exit → PSt → Prop} {ops : Array Oper} {H : List Nat} {ni fin : Bool} {m : Nat} {ls : Array Bool} {st : PSt} {o : Oper}
def lsF (L : List Nat) (n : Nat) : Array Bool := ((List.range n).map fun i => L.any (Nat.beq i)).toArray
theorem xs_more {sch : Sched} {m' : Nat} (hok : schOk ops fin sch ls = true) (hm : schLen sch + m' = m) (h : PS G N Γ ops H ni fin sch m' ls st K) : PS G N Γ ops H ni false [] m ls st K := ⟨fun hs _ => by
  show PE G N Γ ops H ni (0 + m) ls st K
  rw [Nat.zero_add, ← hm]
  exact h.go hs hok⟩
def fTm {α : Type} : List (Nat × PV) → (List (Nat × PV) → Option α) → Option α
  | [], k => k []
  | (d, v) :: l, k => fTm l fun l' => k ((d, v) :: l')
def fMem {α : Type} : List Row → (List Row → Option α) → Option α
  | [], k => k []
  | ⟨s, o, n, sz, f⟩ :: l, k => fMem l fun l' => k (⟨s, o, n, sz, f⟩ :: l')
def fSt (st : PSt) : Option PSt := match st with | ⟨tm, mem⟩ => fTm tm fun tm => fMem mem fun mem => some ⟨tm, mem⟩
theorem fTm_eq {α : Type} : ∀ (l : List (Nat × PV)) (k : List (Nat × PV) → Option α), fTm l k = k l
  | [], _ => rfl
  | (d, v) :: l, k => by rw [fTm, fTm_eq l]
theorem fMem_eq {α : Type} : ∀ (l : List Row) (k : List Row → Option α), fMem l k = k l
  | [], _ => rfl
  | ⟨s, o, n, sz, f⟩ :: l, k => by rw [fMem, fMem_eq l]
theorem fSt_eq {st st' : PSt} (h : fSt st = some st') : st' = st := by
  obtain ⟨tm, mem⟩ := st
  have h : fTm tm (fun tm => fMem mem fun mem => some (⟨tm, mem⟩ : PSt)) = some st' := h
  rw [fTm_eq, fMem_eq] at h
  exact (Option.some.inj h).symm
theorem lsF_set (L : List Nat) (n i : Nat) : (lsF L n).setIfInBounds i true = lsF (i :: L) n := by
  apply Array.ext
  · simp [lsF]
  · intro a h1 h2
    have ha : a < n := by simpa [lsF] using h2
    rw [Array.getElem_setIfInBounds (by simpa [lsF] using ha)]
    by_cases e : i = a
    · subst e; simp [lsF]
    · have e2 : Nat.beq a i = false := by cases hb : Nat.beq a i; rfl; exact absurd (Nat.eq_of_beq_eq_true hb).symm e
      rw [if_neg e]
      simp [lsF, e2]
def brOk (ops : Array Oper) (ls : Array Bool) (m : Nat) (T : List (Nat × Sched × Bool × Nat)) : Bool :=
  (Region.ready .any ops ls == T.map Prod.fst) && (!T.isEmpty && T.all fun x => schOk ops x.2.2.1 x.2.1 (ls.setIfInBounds x.1 true) && schLen x.2.1 + x.2.2.2 == m)
inductive BrAll (G : Pg2) (N : Nat) (Γ : Fr) (ops : Array Oper) (H : List Nat) (ni : Bool) (L : List Nat) (n : Nat) (st : PSt) (K : Exit → PSt → Prop) : List (Nat × Sched × Bool × Nat) → Prop where
  | nil : BrAll G N Γ ops H ni L n st K []
  | cons {i : Nat} {sch : Sched} {fin : Bool} {m' : Nat} {T : List (Nat × Sched × Bool × Nat)} (h : ∃ o ch nk, opAt ops.toList i = some o ∧ chB H ch = true ∧ PStep G N Γ ops o st ch nk (fun st' => PS G N Γ ops H (ni && nk) fin sch m' (lsF (i :: L) n) st' K)) (ht : BrAll G N Γ ops H ni L n st K T) : BrAll G N Γ ops H ni L n st K ((i, sch, fin, m') :: T)
theorem BrAll.at {n : Nat} {L : List Nat} {T : List (Nat × Sched × Bool × Nat)} (h : BrAll G N Γ ops H ni L n st K T) : ∀ i, i ∈ T.map Prod.fst → ∃ x, x ∈ T ∧ x.1 = i ∧ ∃ o ch nk, opAt ops.toList i = some o ∧ chB H ch = true ∧ PStep G N Γ ops o st ch nk (fun st' => PS G N Γ ops H (ni && nk) x.2.2.1 x.2.1 x.2.2.2 (lsF (i :: L) n) st' K) := by
  induction h with
  | nil => intro i hi; cases hi
  | cons h ht ih =>
    intro i hi
    rw [List.map_cons, List.mem_cons] at hi
    rcases hi with rfl | hi
    · exact ⟨_, List.mem_cons_self .., rfl, h⟩
    · obtain ⟨x, h1, h2, h3⟩ := ih i hi
      exact ⟨x, List.mem_cons_of_mem _ h1, h2, h3⟩
theorem xs_brT {st1 : PSt} {n : Nat} (L : List Nat) (T : List (Nat × Sched × Bool × Nat)) (hls : (ls == lsF L n) = true) (hf : fSt st = some st1) (hok : brOk ops (lsF L n) m T = true) (hH : inB st1.mem.length H = true) (h : BrAll G N Γ ops H ni L n st1 K T) : PS G N Γ ops H ni false [] (m + 1) ls st K := by
  have e := fSt_eq hf
  have e2 : ls = lsF L n := by simpa using hls
  subst e e2
  simp only [brOk, Bool.and_eq_true, beq_iff_eq, List.all_eq_true] at hok
  obtain ⟨h1, h2, h3⟩ := hok
  refine xs_br hH h1 (by cases T; simp at h2; simp) fun i hi => ?_
  obtain ⟨x, hx, rfl, o, ch, nk, g1, g2, g3⟩ := h.at i hi
  obtain ⟨h4, h5⟩ := h3 x hx
  refine ⟨o, ch, nk, g1, g2, .mk fun ρ I a w hrel Q => ?_⟩
  have := g3.go ρ I a w hrel Q
  split
  · rename_i hw
    rw [if_pos hw] at this
    exact Oper.wp_mono (fun a' w' ⟨st', ρ', I', hk, hr⟩ => ⟨st', ρ', I', ⟨_, _, _, h4, h5, by rw [lsF_set]; exact hk⟩, hr⟩) this
  · rename_i hw
    rw [if_neg hw] at this
    obtain ⟨st', ρ', I', hk, hr⟩ := this
    exact ⟨st', ρ', I', ⟨_, _, _, h4, h5, by rw [lsF_set]; exact hk⟩, hr⟩
theorem xs_moreF {sch : Sched} {m' n : Nat} (L : List Nat) (hls : (ls == lsF L n) = true) (hok : (schOk ops fin sch (lsF L n) && schLen sch + m' == m) = true) (h : PS G N Γ ops H ni fin sch m' (lsF L n) st K) : PS G N Γ ops H ni false [] m ls st K := by
  have e2 : ls = lsF L n := by simpa using hls
  subst e2
  simp only [Bool.and_eq_true, beq_iff_eq] at hok
  exact xs_more hok.1 hok.2 h
theorem xs_takeR {i d : Nat} {s : Sched} {r : PV} {p : Prop} (hi : opAt ops.toList i = some o) (hg : o.guard = none) (hd : o.dst = some d) (hN : Nat.blt d N = true) (hr : pread G.tab ⟨st.tm, maskM H 0 st.mem⟩ o.op = some (r, p)) (hni : (needI st o.op && !ni) = false) (hp : p)
    (h : PS G N Γ ops H ni fin s m (ls.setIfInBounds i true) (st.put d r) K) : PS G N Γ ops H ni fin (.take i :: s) m ls st K := ⟨fun hs hok => by
  simp only [schOk, Bool.and_eq_true] at hok
  have ht : takeOp G.tab G.eqs N ops H ni st o = some (st.put d r, p) := by
    unfold takeOp
    simp only [hd, hN, hg, hr, hni, cond_true, cond_false]
  have := pe_take (fuel := schLen s + m) i (opAt_ops hi) hs hok.1.1 hok.1.2 ht hp (h.go hs hok.2)
  rw [schLen, show schLen s + 1 + m = schLen s + m + 1 by omega]
  · exact this
  · intro _ _ h; cases h⟩
end
end Go.Proofs.YtdifpajpheemaaaGreatDoor
namespace Go.Proofs.YtdifpajpheemaaaGreatDoor
abbrev dK : ByteArray × Int := (⟨#[]⟩, 0)
def KS : List (ByteArray × Int) := [(n_h, 0), (n_g, 0), (n_f, 0), (n_gross, 0), (n_time, 0), (n_w, 20454), (n_s, 20454), (n_w, 20459), (n_r1, 20454), (n_r1, 20459), (n_r2, 20454), (n_r2, 20459), (n_r3, 20454), (n_r3, 20459), (n_r4, 20454), (n_r4, 20459), (n_a, 20454), (n_b, 20454)]
def keyD (d : Df) : ByteArray × Int := (d.nm, d.day)
structure AB (hh n : Nat) (l : List Df) : Prop where
  sub : (l.map keyD).Sublist (KS.take n)
  gd : ∀ d, d ∈ l → GD hh d
  has : ∀ x, x ∈ KS.take (min n 17) → x.1 ∈ l.map Df.nm
theorem AB.skip {hh n : Nat} {l : List Df} (h : AB hh n l) (hn : n < 18) (hs : (lF dK KS n).1 ∈ (KS.take (min n 17)).map Prod.fst ∨ n = 17) : AB hh (n + 1) l := by
  refine ⟨h.sub.trans (List.take_sublist_take_left (by omega)), h.gd, fun x hx => ?_⟩
  by_cases h17 : n = 17
  · subst h17; exact h.has x hx
  · have hn17 : n < 17 := by omega
    rw [show min (n + 1) 17 = n + 1 by omega, take_snoc (d := dK) (by show n < 18; omega)] at hx
    rcases List.mem_append.1 hx with hx | hx
    · exact h.has x (by rw [show min n 17 = n by omega]; exact hx)
    · have : x = lF dK KS n := by simpa using hx
      subst this
      obtain ⟨y, hy, he⟩ := List.mem_map.1 (hs.resolve_right h17)
      rw [← he]; exact h.has y hy
theorem AB.snoc {hh n : Nat} {l : List Df} (h : AB hh n l) (hn : n < 18) {d : Df} (hk : keyD d = lF dK KS n) (hd : GD hh d) : AB hh (n + 1) (l ++ [d]) := by
  refine ⟨?_, fun x hx => ?_, fun x hx => ?_⟩
  · rw [take_snoc (d := dK) (by show n < 18; omega), List.map_append, List.map_cons, List.map_nil, hk]
    exact h.sub.append (List.Sublist.refl _)
  · rcases List.mem_append.1 hx with hx | hx
    · exact h.gd x hx
    · obtain rfl : x = d := by simpa using hx
      exact hd
  · rw [List.map_append, List.mem_append]
    by_cases h17 : n = 17
    · subst h17; exact .inl (h.has x hx)
    · rw [show min (n + 1) 17 = n + 1 by omega, take_snoc (d := dK) (by show n < 18; omega)] at hx
      rcases List.mem_append.1 hx with hx | hx
      · exact .inl (h.has x (by rw [show min n 17 = n by omega]; exact hx))
      · have : x = lF dK KS n := by simpa using hx
        subst this
        refine .inr ?_
        rw [← hk]; simp [keyD]
theorem KS_nodup : (KS.map fun x => (x.1.toList, x.2)).Nodup := by decide +kernel
theorem neds_KS : ∀ n, n ∈ neds → n ∈ (KS.take 17).map Prod.fst := by
  intro n hn
  unfold neds at hn
  simp only [List.mem_cons, List.not_mem_nil, or_false] at hn
  rcases hn with rfl | rfl | rfl | rfl | rfl | rfl | rfl | rfl | rfl | rfl | rfl | rfl <;> (unfold KS; simp only [List.take_succ_cons, List.take_zero, List.map_cons, List.map_nil]; repeat' (first | exact List.Mem.head _ | refine List.Mem.tail _ ?_))
theorem AB.good {hh : Nat} {l : List Df} (h : AB hh 18 l) : AGood hh l := by
  refine ⟨h.gd, ?_, fun n hn => ?_, ?_⟩
  · have e : (l.map fun d => (d.nm.toList, d.day)) = (l.map keyD).map (fun x => (x.1.toList, x.2)) := by rw [List.map_map]; rfl
    rw [e]
    exact (h.sub.map _).nodup KS_nodup
  · obtain ⟨x, hx, he⟩ := List.mem_map.1 (neds_KS n hn)
    rw [← he]; exact h.has x hx
  · have := h.sub.length_le
    simp [KS] at this
    omega
abbrev dI (k : Int) (nm : ByteArray) (t : Ty) : Df := ⟨k, nm, t, 0, 0, fun _ => (0, 0, 0), .nil, 0, 0, 0⟩
theorem zero_nil : zeroX .nil = true := by decide +kernel
theorem gd_in {hh : Nat} {k : Int} {nm : ByteArray} {t : Ty} (ht : (nm, k, t) ∈ tabL) (hk : k = 1 ∨ k = 5) (hs : nm.size ≤ 100) (h1 : typS t = true) (h2 : k = 5 → t.b = false) : GD hh (dI k nm t) := by
  have n3 : ¬ k = 3 := by omega
  have n4 : ¬ k = 4 := by omega
  refine ⟨ht, ?_, ⟨Nat.le_trans hs (by decide), fun i hi => absurd hi (Nat.not_lt_zero i), Nat.zero_le _, .nil, ?_⟩, fun h => ?_, fun h => absurd h n3⟩
  · rcases hk with rfl | rfl
    · simp [defS, h1, zero_nil]
    · simp [defS, h1, zero_nil, h2 rfl]
  · exact ⟨by show (-9223372036854775808 : Int) ≤ 0; decide, by show (0 : Int) ≤ 9223372036854775807; decide⟩
  · rcases h with h | h
    · exact absurd h n3
    · exact absurd h n4
theorem gd_sc {hh : Nat} {nm : ByteArray} {t : Ty} {day : Int} {d : Df} (h : ScOk nm t day d) (ht : (nm, (2 : Int), t) ∈ tabL) (hs : nm.size ≤ 100) (h1 : typS t = true) (h2 : t.b = false) (h3 : dayS day = true) : GD hh d := by
  obtain ⟨kind, nm', ty, day', ne, ef, body, mode, sn, sd⟩ := d
  obtain ⟨e, hen, hef, hne⟩ := h
  simp only [Df.mk.injEq] at e hen hef hne
  obtain ⟨rfl, rfl, rfl, rfl, -, -, rfl, rfl, rfl, rfl⟩ := e
  refine ⟨ht, ?_, ⟨Nat.le_trans hs (by decide), hef, Nat.le_trans hne (by decide), .nil, ?_⟩, fun h => ?_, fun h => ?_⟩
  · simp [defS, h1, h2, h3, hen, zero_nil]
  · exact ⟨by show (-9223372036854775808 : Int) ≤ 0; decide, by show (0 : Int) ≤ 9223372036854775807; decide⟩
  · have h : (2 : Int) = 3 ∨ (2 : Int) = 4 := h
    rcases h with h | h <;> exact absurd h (by decide)
  · have h : (2 : Int) = 3 := h
    exact absurd h (by decide)
abbrev dR (nm : ByteArray) (t : Ty) (day : Int) (e : Ex) : Df := ⟨3, nm, t, day, 0, fun _ => (0, 0, 0), e, 0, 0, 0⟩
theorem gd_rule {hh : Nat} {nm : ByteArray} {t : Ty} {day : Int} {e : Ex} (he : EOk hh t e) (h32 : hh ≤ 32) (ht : (nm, (3 : Int), t) ∈ tabL) (hs : nm.size ≤ 100) (h1 : typS t = true) (h3 : day = 20454 ∨ day = 20459) : GD hh (dR nm t day e) := by
  refine ⟨ht, ?_, ⟨Nat.le_trans hs (by decide), fun i hi => absurd hi (Nat.not_lt_zero i), Nat.zero_le _, he.bd, ?_⟩, fun h => ?_, fun h => h3⟩
  · have hd : dayS day = true := by rcases h3 with rfl | rfl <;> decide
    simp [defS, h1, hd, he.vl 32 h32]
  · exact ⟨by show (-9223372036854775808 : Int) ≤ 0; decide, by show (0 : Int) ≤ 9223372036854775807; decide⟩
  · show EOk hh (if (3 : Int) = 4 then tM else t) e
    rw [if_neg (by decide)]; exact he
abbrev dP (nm : ByteArray) (e : Ex) (mode : Int) (x : Int × Int) : Df := ⟨4, nm, t0, 20454, 0, fun _ => (0, 0, 0), e, mode, x.1, x.2⟩
def stepL : List (Int × Int) := [(1, 100), (1, 20), (1, 1)]
theorem gd_pay {hh : Nat} {nm : ByteArray} {e : Ex} {mode : Int} {x : Int × Int} (he : EOk hh tM e) (h32 : hh ≤ 32) (ht : (nm, (4 : Int), t0) ∈ tabL) (hs : nm.size ≤ 100) (hm : 0 ≤ mode ∧ mode ≤ 6) (hx : x ∈ stepL) : GD hh (dP nm e mode x) := by
  have key : ∀ x ∈ stepL, -9223372036854775808 ≤ x.1 ∧ x.1 ≤ 9223372036854775807 ∧ stepS x.1 x.2 = true := by decide +kernel
  obtain ⟨k1, k2, k3⟩ := key x hx
  have hd : dayS 20454 = true := by decide
  have hmo : modeB mode = true := by simp [modeB]; omega
  refine ⟨ht, ?_, ⟨Nat.le_trans hs (by decide), fun i hi => absurd hi (Nat.not_lt_zero i), Nat.zero_le _, he.bd, k1, k2⟩, fun h => he, fun h => ?_⟩
  · simp [defS, tz, hd, hmo, k3, he.vl 32 h32]
  · have h : (4 : Int) = 3 := h
    exact absurd h (by decide)
def ins5 : List Df := [dI 1 n_h tH, dI 1 n_g t0, dI 1 n_f tB, dI 5 n_gross tM, dI 5 n_time tH]
theorem ab_nil (hh : Nat) : AB hh 0 [] := ⟨List.Sublist.refl _, fun d hd => absurd hd (List.not_mem_nil), fun x hx => absurd hx (by simp)⟩
theorem ab5 (hh : Nat) : AB hh 5 ins5 := by
  have h1 := (ab_nil hh).snoc (by omega) (d := dI 1 n_h tH) rfl (gd_in mm (.inl rfl) (by decide) (by decide) (fun h => by cases h))
  have h2 := h1.snoc (by omega) (d := dI 1 n_g t0) rfl (gd_in mm (.inl rfl) (by decide) (by decide) (fun h => by cases h))
  have h3 := h2.snoc (by omega) (d := dI 1 n_f tB) rfl (gd_in mm (.inl rfl) (by decide) (by decide) (fun h => by cases h))
  have h4 := h3.snoc (by omega) (d := dI 5 n_gross tM) rfl (gd_in mm (.inr rfl) (by decide) (by decide) (fun h => rfl))
  exact h4.snoc (by omega) (d := dI 5 n_time tH) rfl (gd_in mm (.inr rfl) (by decide) (by decide) (fun h => rfl))
def nmsR : List ByteArray := [n_r1, n_r2, n_r3, n_r4]
def tysR : List Ty := [tR, tM, tB, t0]
theorem ks_rule {i v : Nat} (hi : i < 4) (hv : v < 2) : lF dK KS (8 + 2 * i + v) = (lF ⟨#[]⟩ nmsR i, 20454 + 5 * (v : Int)) := by
  rcases (by omega : i = 0 ∨ i = 1 ∨ i = 2 ∨ i = 3) with rfl | rfl | rfl | rfl <;> rcases (by omega : v = 0 ∨ v = 1) with rfl | rfl <;> rfl
theorem rule_tab {i : Nat} (hi : i < 4) : (lF ⟨#[]⟩ nmsR i, (3 : Int), lF t0 tysR i) ∈ tabL ∧ (lF ⟨#[]⟩ nmsR i).size ≤ 100 ∧ typS (lF t0 tysR i) = true := by
  rcases (by omega : i = 0 ∨ i = 1 ∨ i = 2 ∨ i = 3) with rfl | rfl | rfl | rfl
  · exact ⟨show (n_r1, (3 : Int), tR) ∈ tabL from mm, by decide, by decide⟩
  · exact ⟨show (n_r2, (3 : Int), tM) ∈ tabL from mm, by decide, by decide⟩
  · exact ⟨show (n_r3, (3 : Int), tB) ∈ tabL from mm, by decide, by decide⟩
  · exact ⟨show (n_r4, (3 : Int), t0) ∈ tabL from mm, by decide, by decide⟩
theorem ks_skip {i : Nat} (hi : i < 4) : (lF dK KS (8 + 2 * i + 1)).1 ∈ (KS.take (min (8 + 2 * i + 1) 17)).map Prod.fst := by
  refine List.mem_map.2 ⟨lF dK KS (8 + 2 * i), ?_, ?_⟩
  · rw [show min (8 + 2 * i + 1) 17 = 8 + 2 * i + 1 by omega, take_snoc (d := dK) (by show 8 + 2 * i < 18; omega)]
    exact List.mem_append_right _ (List.mem_singleton.2 rfl)
  · rcases (by omega : i = 0 ∨ i = 1 ∨ i = 2 ∨ i = 3) with rfl | rfl | rfl | rfl <;> rfl
theorem ks_w : (lF dK KS 7).1 ∈ (KS.take (min 7 17)).map Prod.fst := by
  refine List.mem_map.2 ⟨lF dK KS 5, ?_, rfl⟩
  show lF dK KS 5 ∈ KS.take 7
  rw [take_snoc (d := dK) (by decide : 6 < 18), take_snoc (d := dK) (by decide : 5 < 18)]
  simp
def nmsP : List ByteArray := [n_a, n_b]
abbrev n_metal : ByteArray := ⟨#[109, 101, 116, 97, 108]⟩
theorem o_eqP {α : Type} {c : α → List PV} {τ : Nat → Option Nat} {sz n n' : Nat} {f : Nat → Nat → PV} {g : Nat → α} (hn : n' ≤ n) (h : ∀ a, a < n' → ∀ b, b < sz → PEq ((f a b).ren τ) (nthP (c (g a)) b)) : RowEq (Row.ren τ ⟨.own, false, n, sz, f⟩) (oRow c sz n' g) := ⟨rfl, rfl, hn, fun i hi j hj => h i hi j hj⟩
theorem o_eq2 {α : Type} {c : α → List PV} (hc : CellsCl c) {τ : Nat → Option Nat} {sz n n' : Nat} {f : Nat → Nat → PV} {g : Nat → α} (hn : n' ≤ n) (h : ∀ a, a < n' → ∀ b, b < sz → f a b = nthP (c (g a)) b ∨ PEq ((f a b).ren τ) (nthP (c (g a)) b)) : RowEq (Row.ren τ ⟨.own, false, n, sz, f⟩) (oRow c sz n' g) := o_eqP hn fun a ha b hb => by
  rcases h a ha b hb with h | h
  · rw [h]; exact PEq.cl _ (clL_nth _ b (hc (g a)))
  · exact h
theorem app_p {α : Type} {c : α → List PV} (hc : CellsCl c) {τ : Nat → Option Nat} {sz m M : Nat} {d : α} {l : List α} {y : α} {L : List PV} (hl : l.length = m) (hL : ∀ b, b < sz → PEq ((nthP L b).ren τ) (nthP (c y) b)) (hM : M = m + 1) : RowEq (Row.ren τ ⟨.own, false, M, sz, appF m (fun x => tF c (lF d l) (0 + x)) (fun x b => nthP L ((0 + x) * sz + b))⟩) (vRow c sz (m + 1) (lF d (l ++ [y]))) := by
  subst hM hl
  refine o_eq2 hc (Nat.le_refl _) fun a ha b hb => ?_
  by_cases e : a < l.length
  · rw [appF_lt _ _ e, Nat.zero_add, lF_lt e]; exact .inl rfl
  · obtain rfl : a = l.length := by omega
    rw [appF_ge _ _ (Nat.le_refl _), Nat.sub_self, Nat.zero_add, Nat.zero_mul, Nat.zero_add, lF_at]
    exact .inr (hL b hb)
theorem app_2 {α : Type} {c : α → List PV} (hc : CellsCl c) {τ : Nat → Option Nat} {sz m M : Nat} {d : α} {l : List α} {y z : α} {L : List PV} (hl : l.length = m) (hs : ∀ x : α, (c x).length = sz) (hL : L = c y ++ c z) (hM : M = m + 2) : RowEq (Row.ren τ ⟨.own, false, M, sz, appF m (fun x => tF c (lF d l) (0 + x)) (fun x b => nthP L ((0 + x) * sz + b))⟩) (vRow c sz (m + 1 + 1) (lF d (l ++ [y, z]))) := by
  subst hM hl hL
  refine o_eq hc (Nat.le_refl _) fun a ha b hb => ?_
  by_cases e : a < l.length
  · rw [appF_lt _ _ e, Nat.zero_add, lF_lt e]; rfl
  · have hn : ∀ (A B : List PV) (k : Nat), nthP (A ++ B) k = if k < A.length then nthP A k else nthP B (k - A.length) := by
      intro A
      induction A with
      | nil => intro B k; simp
      | cons x A ih =>
        intro B k
        cases k with
        | zero => simp [nthP]
        | succ k =>
          show nthP (A ++ B) k = _
          rw [ih]; simp [nthP]
    rcases (by omega : a = l.length ∨ a = l.length + 1) with rfl | rfl
    · rw [appF_ge _ _ (Nat.le_refl _), Nat.sub_self, Nat.zero_add, Nat.zero_mul, Nat.zero_add, lF_at, hn, if_pos (by rw [hs]; exact hb)]
    · rw [appF_ge _ _ (by omega), show l.length + 1 - l.length = 1 by omega, show (0 + 1) * sz + b = sz + b by omega, hn, if_neg (by rw [hs]; omega), hs, show sz + b - sz = b by omega]
      have : lF d (l ++ [y, z]) (l.length + 1) = z := by
        unfold lF; rw [List.getD_eq_getElem?_getD, List.getElem?_append_right (by omega), show l.length + 1 - l.length = 1 by omega]; rfl
      rw [this]
theorem split21 {b : Nat} (h : b < 21) : b = 0 ∨ b = 1 ∨ b = 2 ∨ b = 3 ∨ b = 4 ∨ b = 5 ∨ b = 6 ∨ b = 7 ∨ b = 8 ∨ b = 9 ∨ b = 10 ∨ b = 11 ∨ b = 12 ∨ b = 13 ∨ b = 14 ∨ b = 15 ∨ b = 16 ∨ b = 17 ∨ b = 18 ∨ b = 19 ∨ b = 20 := by omega
abbrev tysA : List Ty := [t0, tM, tH, tR, tB]
theorem rule_ty {i : Nat} (hi : i < 4) : lF t0 tysR i ∈ tysA := by
  rcases (by omega : i = 0 ∨ i = 1 ∨ i = 2 ∨ i = 3) with rfl | rfl | rfl | rfl <;> simp [tysA, tysR, lF]
theorem AB.len {hh n : Nat} {l : List Df} (h : AB hh n l) : l.length ≤ 18 := by
  have := h.sub.length_le
  simp [KS] at this
  omega
abbrev rZA : Row := ⟨.own, true, 1, 2, fun _ => nthP [vs ⟨#[]⟩, .val (.slice none 0 0)]⟩
abbrev rA (k l : Nat) : Row := ⟨.own, true, 1, 2, fun _ => nthP [vs n_metal, slP k l]⟩
theorem pread_cell {tab : List TI} {st : PSt} {t : Nat} {x : Operand} {l i n sz : Nat} {one : Bool} {f : Nat → Nat → PV} {q : PV} (hx : st.ev x = .ptr l i 0) (hr : rowAt st.mem l = some ⟨.own, one, n, sz, f⟩) (hk : (tget tab t).k.isAgg = false) (hsc : (tget tab t).k.scalar = true) (hs : Nat.ble 1 sz = true) (hf : f i 0 = q) : pread tab st (.load t x) = some (q, i < n) := by
  have fe : ∀ (p : PV) (k : PV → RP), force p k = k p := fun p k => by cases p <;> rfl
  have hj : Nat.blt 0 sz = true := hs
  simp only [pread, hx, str, hr, Row.ok, pload, hk, hsc, hj, fe, hf, rmap, strP, cond_true, cond_false, Bool.and_self]
def swpL (l : List Df) (i j : Nat) : List Df := (l.set i (lF dD l j)).set j (lF dD l i)
theorem swpL_perm {l : List Df} {i j : Nat} (hi : i < l.length) (hj : j < l.length) : l.Perm (swpL l i j) := by
  have h := (Array.swap_perm (xs := l.toArray) (i := i) (j := j) (by simpa using hi) (by simpa using hj)).toList
  rw [Array.toList_swap] at h
  have e : swpL l i j = (l.set i l[j]).set j l[i] := by unfold swpL; rw [lF_take hi, lF_take hj]
  rw [e]
  simpa using h.symm
theorem swpL_len {l : List Df} {i j : Nat} : (swpL l i j).length = l.length := by simp [swpL]
theorem swpL_at {l : List Df} {i j : Nat} (hi : i < l.length) (hj : j < l.length) (a : Nat) : lF dD (swpL l i j) a = if a = j then lF dD l i else if a = i then lF dD l j else lF dD l a := by
  unfold swpL lF
  simp only [List.getD_eq_getElem?_getD, List.getElem?_set, List.length_set]
  by_cases h1 : j = a
  · subst h1; simp [hj]
  · by_cases h2 : i = a
    · subst h2; simp [h1, hi, Ne.symm h1]
    · simp [h1, h2, Ne.symm h1, Ne.symm h2]
theorem swp_eq {τ : Nat → Option Nat} {n i j i' j' : Nat} {l : List Df} {L L' : List PV} (hi : i < l.length) (hj : j < l.length) (hi' : i' = i) (hj' : j' = j) (hL : L = cD (lF dD l j')) (hL' : L' = cD (lF dD l i')) : RowEq (Row.ren τ ⟨.own, false, n, 21, updR (updR (tF cD (lF dD l)) i' L) j' L'⟩) (oRow cD 21 n (lF dD (swpL l i j))) := by
  subst hL hL' hi' hj'
  refine o_eq cD_cl (Nat.le_refl _) fun a ha b hb => ?_
  rw [swpL_at hi hj]
  unfold updR
  by_cases h1 : a = j'
  · subst h1; simp
  · have e1 : Nat.beq a j' = false := by cases hb2 : Nat.beq a j'; rfl; exact absurd (Nat.eq_of_beq_eq_true hb2) h1
    by_cases h2 : a = i'
    · subst h2; simp only [e1, cond_false, if_neg h1, if_true]; simp
    · have e2 : Nat.beq a i' = false := by cases hb2 : Nat.beq a i'; rfl; exact absurd (Nat.eq_of_beq_eq_true hb2) h2
      simp only [e1, e2, cond_false, if_neg h1, if_neg h2]; rfl
abbrev agrPost (h n : Nat) (g : Nat → Int) : PV → List Row → Prop := fun r rows => ∃ (at' : Int) (k : Nat) (l : List Df), 0 ≤ at' ∧ at' ≤ n ∧ l.length = k + 1 ∧ AGood h l ∧ r = .agg 2 (nthP [vs n_metal, .lsl 2 0 (k + 1)]) ∧ rows = [tapeRow n g at', rA (k + 1) 2, oRow cD 21 (k + 1) (lF dD l)]
theorem AGood.l1 {h : Nat} {l : List Df} (hA : AGood h l) : l.length ≤ 30 := hA.len
theorem pread_aggs2 {tab : List TI} {st : PSt} {t : Nat} {x : Operand} {l i n sz m : Nat} {one : Bool} {f : Nat → Nat → PV} {q : List PV} (hx : st.ev x = .ptr l i 0) (hr : rowAt st.mem l = some ⟨.own, one, n, sz, f⟩) (hk : (tget tab t).k.isAgg = true) (hm : (tget tab t).sz = m) (hs : Nat.ble (0 + m) sz = true) (hq : q.length = m) (hf : ∀ j, j < m → f i j = nthP q j) : pread tab st (.load t x) = some (.agg m (nthP q), i < n) := by
  have e : (List.range' 0 m).map (fun y => f i (0 + y)) = q := by
    apply List.ext_getElem
    · simp [hq]
    · intro k h1 h2
      simp at h1
      simp only [List.getElem_map, List.getElem_range']
      rw [show 0 + (0 + 1 * k) = k by omega, hf k h1]
      have : ∀ (L : List PV) (k : Nat) (h : k < L.length), nthP L k = L[k] := by
        intro L
        induction L with
        | nil => intro k h; simp at h
        | cons y L ih =>
          intro k h
          cases k with
          | zero => rfl
          | succ k => simp only [nthP, List.getElem_cons_succ]; exact ih k (by simpa using h)
      exact this q k h2
  simp only [pread, hx, str, hr, Row.ok, pload, hk, hm, hs, forceL_eq, rmap, strP, cond_true, e]
abbrev dS : Int × Int := (0, 1)
theorem st3_row {x : Int} (h1 : 0 ≤ x) (h2 : x < 3 ∨ x = 0) (j : Nat) (hj : j < 2) : nthP [vi 1, vi 100, vi 1, vi 20, vi 1, vi 1] ((0 + x.toNat) * 2 + j) = nthP [vi (lF dS stepL x.toNat).1, vi (lF dS stepL x.toNat).2] j := by
  obtain ⟨k, rfl⟩ : ∃ k : Nat, x = k := ⟨x.toNat, by omega⟩
  rcases (by omega : k = 0 ∨ k = 1 ∨ k = 2) with rfl | rfl | rfl <;> rcases (by omega : j = 0 ∨ j = 1) with rfl | rfl <;> rfl
theorem st3_mem {x : Int} (h1 : 0 ≤ x) (h2 : x < 3 ∨ x = 0) : lF dS stepL x.toNat ∈ stepL := by
  obtain ⟨k, rfl⟩ : ∃ k : Nat, x = k := ⟨x.toNat, by omega⟩
  rcases (by omega : k = 0 ∨ k = 1 ∨ k = 2) with rfl | rfl | rfl <;> simp [lF, stepL]
theorem nmP_row {v : Nat} (hv : v ≤ 1) : nthP [vs n_a, vs n_b] ((0 + (v : Int).toNat) * 1 + 0) = vs (lF ⟨#[]⟩ nmsP v) := by
  rcases (by omega : v = 0 ∨ v = 1) with rfl | rfl <;> rfl
theorem pay_tab3 {v : Nat} (hv : v ≤ 1) : (lF ⟨#[]⟩ nmsP v, (4 : Int), t0) ∈ tabL ∧ (lF ⟨#[]⟩ nmsP v).size ≤ 100 ∧ lF dK KS (16 + v) = (lF ⟨#[]⟩ nmsP v, 20454) := by
  rcases (by omega : v = 0 ∨ v = 1) with rfl | rfl
  · exact ⟨mm, by decide, rfl⟩
  · exact ⟨mm, by decide, rfl⟩
set_option maxHeartbeats 8000000 in
theorem agr_swap (h : Nat) (n : Nat) (g : Nat → Int) (hn : n ≤ 9223372036854775807) (Γ : Fr) (hk : Γ.k0 = 1) (at_ : Int) (k : Nat) (l : List Df) (b1 : 0 ≤ at_) (b2 : at_ ≤ n) (hlk : l.length = k + 1) (hA : AGood h l) :
    PWp G.toPg Tryz.f13.ntmps Γ (dropS 8 (Tryz.f13.body.getD .skip)) ⟨[(0, .ptr 0 0 0), (6, .ptr 1 0 0), (7, .ptr 2 0 0)], [tapeRow n g at_, rZA, rA (k + 1) 3, vRow cD 21 (k + 1) (lF dD l)]⟩ (KretR Tryz.f13.ntmps Γ G.tab Tryz.f13.results.toList 1 (agrPost h n g)) := by
  repeat' (first | refine yo ?_ ?_ | refine yw ?_ ?_ | refine yk ?_ ?_ | exact trivial | with_reducible refine wA ?_ ?_ | refine ys ?_ ?_ | refine xs_done ?_ | refine yl ?_ ?_ | (refine tn1 hn ?_; rintro at_ b1 b2 x hx1 hx2) | refine w8 ?_ | refine w9 ?_ | refine w1 ?_ | refine w2 ?_ | refine w3 ?_ | refine w4 ?_ | refine w5 ?_ | refine w6 ?_ | refine w7 ?_ | refine yo0 ?_ ?_ | refine yw0 ?_ ?_ | exact qq | fail)
  refine pcan (st' := ⟨[(0, .ptr 0 0 0), (6, .ptr 1 0 0), (7, .ptr 2 0 0), (14, vi x)], [tapeRow n g at_, rZA, rA (k + 1) 3, vRow cD 21 (k + 1) (lF dD l)]⟩) (can_rowsv [0, 1, 2, 3] (k0_sel hk rfl) rfl (.cons rfl (RowEq.cl (tape_cl _ _ _)) (.cons rfl rqq (.cons rfl rqq (.cons rfl (RowEq.cl (v_cl cD_cl _ _ _)) .nil)))) tmq) ?_
  refine ploop (fun q st => ∃ (at' y : Int) (l : List Df), 0 ≤ at' ∧ at' ≤ n ∧ 0 ≤ y ∧ y ≤ 3 ∧ q = y.toNat ∧ l.length = k + 1 ∧ AGood h l ∧ st = ⟨[(0, .ptr 0 0 0), (6, .ptr 1 0 0), (7, .ptr 2 0 0), (14, vi y)], [tapeRow n g at', rZA, rA (k + 1) 3, vRow cD 21 (k + 1) (lF dD l)]⟩) x.toNat ⟨at_, x, l, b1, b2, hx1, by omega, rfl, hlk, hA, rfl⟩ ?_
  clear hlk hA b1 b2 hx1 hx2
  rintro _ _ ⟨at', y, l, b1, b2, hy0, hy3, rfl, hlk, hA, rfl⟩
  have hk30 := hA.l1
  have hwy : IntKind.i64.wrap (y - 1) = y - 1 := w64 (by omega) (by omega)
  repeat' (first | refine yo ?_ ?_ | refine yw ?_ ?_ | refine yk ?_ ?_ | exact trivial | with_reducible refine wA ?_ ?_ | refine ys ?_ ?_ | refine xs_done ?_ | refine yl ?_ ?_ | refine w8 ?_ | refine w9 ?_ | refine w1 ?_ | refine w2 ?_ | refine w3 ?_ | refine w4 ?_ | refine w5 ?_ | refine w6 ?_ | refine w7 ?_ | refine yo0 ?_ ?_ | refine yw0 ?_ ?_ | exact qq | fail)
  refine pcond rfl ?_ ?_ <;> intro hc <;> simp at hc
  · repeat' (first | refine yo ?_ ?_ | refine yw ?_ ?_ | refine yk ?_ ?_ | exact trivial | with_reducible refine wA ?_ ?_ | refine ys ?_ ?_ | refine xs_done ?_ | refine yl ?_ ?_ | refine xs_start (id := 24) true [.take 0, .take 1, .take 2, .take 3, .take 5, .take 6, .take 7, .take 8, .one 4, .one 9, .take 10, .take 11] 0 rfl rfl (by kernel_rfl) ?_ | refine xs_startH (id := 25) [1,2] false [.take 0, .take 1, .take 2, .take 3, .take 4, .take 5, .take 6, .take 7, .take 8, .take 11, .take 12, .take 13] 8 rfl (by kernel_rfl) ?_ | refine BrAll.cons ?_ ?_ | exact BrAll.nil | refine xs_brT (n := 20) [0, 1, 2, 3, 4, 5, 6, 7, 8, 11, 12, 13] [(9, [], false, 7), (14, [], false, 7)] (by decide +kernel) rfl (by kernel_rfl) (by kernel_rfl) ?_ | refine xs_brT (n := 20) [0, 1, 2, 3, 4, 5, 6, 7, 8, 11, 12, 13, 14] [(9, [], false, 6), (15, [.one 9, .one 10, .one 16, .one 17, .one 18, .one 19], true, 0)] (by decide +kernel) rfl (by kernel_rfl) (by kernel_rfl) ?_ | refine xs_brT (n := 20) [0, 1, 2, 3, 4, 5, 6, 7, 8, 9, 11, 12, 13, 14] [(10, [.one 15, .one 16, .one 17, .one 18, .one 19], true, 0), (15, [.one 10, .one 16, .one 17, .one 18, .one 19], true, 0)] (by decide +kernel) rfl (by kernel_rfl) (by kernel_rfl) ?_ | refine xs_brT (n := 20) [0, 1, 2, 3, 4, 5, 6, 7, 8, 9, 11, 12, 13] [(10, [.one 14, .one 15, .one 16, .one 17, .one 18, .one 19], true, 0), (14, [], false, 6)] (by decide +kernel) rfl (by kernel_rfl) (by kernel_rfl) ?_ | refine ⟨_, [], true, rfl, rfl, stepOp_pst rfl ?_ ?_⟩ | (refine tn2 hn ?_; rintro at_ b1 b2 x hx1 hx2) | refine w8 ?_ | refine w9 ?_ | refine w1 ?_ | refine w2 ?_ | refine w3 ?_ | refine w4 ?_ | refine w5 ?_ | refine w6 ?_ | refine w7 ?_ | refine yo0 ?_ ?_ | refine yw0 ?_ ?_ | exact qq | fail)
    all_goals
      rename_i at1 c1 c2 xn hn1 hn2
      have e1 : xn.toNat < l.length := by omega
      have e2 : x.toNat < l.length := by omega
      refine xdone ?_
      rw [hwy]
      exact kloop_next (st' := ⟨[(0, .ptr 0 0 0), (6, .ptr 1 0 0), (7, .ptr 2 0 0), (14, vi (y - 1))], [tapeRow n g _, rZA, rA (k + 1) 3, vRow cD 21 (k + 1) (lF dD (swpL l xn.toNat x.toNat))]⟩) (y - 1).toNat (can_rowsv [0, 1, 2, 3] (k0_sel hk rfl) rfl (.cons rfl (RowEq.cl (tape_cl _ _ _)) (.cons rfl rqq (.cons rfl rqq (.cons rfl (swp_eq e1 e2 (Nat.zero_add _) (Nat.zero_add _) rfl rfl) .nil)))) tmq) (by omega) ⟨_, y - 1, _, by assumption, by assumption, by omega, by omega, rfl, by rw [swpL_len]; exact hlk, hA.perm (swpL_perm e1 e2), rfl⟩
  · repeat' (first | refine yo ?_ ?_ | refine yw ?_ ?_ | refine yk ?_ ?_ | exact trivial | with_reducible refine wA ?_ ?_ | refine ys ?_ ?_ | refine xs_done ?_ | refine yl ?_ ?_ | refine w8 ?_ | refine w9 ?_ | refine w1 ?_ | refine w2 ?_ | refine w3 ?_ | refine w4 ?_ | refine w5 ?_ | refine w6 ?_ | refine w7 ?_ | refine yo0 ?_ ?_ | refine yw0 ?_ ?_ | exact qq | fail)
    refine xdone ?_
    exact kretr (st' := ⟨[(6, .ptr 1 0 0)], [tapeRow n g at', rA (k + 1) 2, oRow cD 21 (k + 1) (lF dD l)]⟩) (can_rowsv [0, 1, 3] (k0_sel hk rfl) rfl (.cons rfl (RowEq.cl (tape_cl _ _ _)) (.cons rfl rqq (.cons rfl (RowEq.cl (o_cl cD_cl _ _ _)) .nil))) tmq) rfl ⟨Nat.zero_lt_one, trivial⟩ rfl ⟨at', k, l, b1, b2, hlk, hA, rfl, rfl⟩
end Go.Proofs.YtdifpajpheemaaaGreatDoor
namespace Go.Proofs.YtdifpajpheemaaaGreatDoor
inductive BK (c : Nat) : Ex → Prop where
  | nil : BK c .nil
  | mk {op vn vd um uh ud : Int} {nm : ByteArray} {cnt mode : Int} {nk : Nat} {kf : Nat → Ex} (h : -9223372036854775808 ≤ vn ∧ vn ≤ 9223372036854775807 ∧ nm.size ≤ 9223372036854775807) (hn : nk ≤ c) (hk : ∀ i, i < nk → BK c (kf i)) : BK c (.mk op vn vd um uh ud nm cnt mode nk kf)
theorem BK.bd {c : Nat} {e : Ex} (h : BK c e) : Bd e := by
  induction h with
  | nil => exact .nil
  | mk h _ _ ih => exact .mk h ih
theorem BK.mono {c c' : Nat} {e : Ex} (h : BK c e) (hc : c ≤ c') : BK c' e := by
  induction h with
  | nil => exact .nil
  | mk h hn _ ih => exact .mk h (by omega) ih
theorem BK.nk {c : Nat} {e : Ex} (h : BK c e) : e.nk ≤ c := by cases h with | nil => exact Nat.zero_le _ | mk _ h _ => exact h
theorem BK.k {c : Nat} {e : Ex} (h : BK c e) {i : Nat} (hi : i < e.nk) : BK c (e.kf i) := by cases h with | nil => exact absurd hi (Nat.not_lt_zero _) | mk _ _ h => exact h i hi
theorem BK.of_valid : ∀ (n : Nat) (e : Ex), validS n e = true → Bd e → BK 3 e
  | 0, _, h, _ => by cases h
  | n + 1, e, h, hb => by
    simp only [validS, Bool.and_eq_true, decide_eq_true_eq] at h
    obtain ⟨h1, _, h3⟩ := h
    have h3 := allK_iff.1 h3
    have hk := kidsN_le e.op
    have hk2 : e.nk ≤ 3 := by omega
    cases hb with
    | nil => exact .nil
    | mk hb hbk => exact .mk hb hk2 fun i hi => BK.of_valid n _ (h3 i hi) (hbk i hi)
theorem BK.set {c : Nat} {e : Ex} (h : BK c e) {op vn vd um uh ud : Int} {nm : ByteArray} {cnt mode : Int} (hb : -9223372036854775808 ≤ vn ∧ vn ≤ 9223372036854775807 ∧ nm.size ≤ 9223372036854775807) : BK c (.mk op vn vd um uh ud nm cnt mode e.nk e.kf) := .mk hb h.nk fun i hi => h.k hi
abbrev eT : Ex := eOp 2 0 kn
theorem w_snoc (e : Ex) {op vn vd um uh ud : Int} {nm : ByteArray} {cnt mode : Int} : (Ex.mk op vn vd um uh ud nm cnt mode (e.nk + 1) (snocA e.nk e.kf eT)).w ≤ e.w + 2 := by
  have h := w_kids e
  have e1 : (wS e.nk fun i => (snocA e.nk e.kf eT i).w) = wS e.nk fun i => (e.kf i).w := wS_congr fun i hi => by unfold snocA; rw [if_pos hi]
  have e2 : (snocA e.nk e.kf eT e.nk).w = 1 := by unfold snocA; rw [if_neg (Nat.lt_irrefl _)]; rfl
  simp only [Ex.w, wS, e1, e2]; omega
theorem w_upd (e : Ex) {op vn vd um uh ud : Int} {nm : ByteArray} {cnt mode : Int} {x : Nat} {e2 : Ex} (h2 : e2.w ≤ (e.kf x).w + 100) : (Ex.mk op vn vd um uh ud nm cnt mode e.nk (updA e.kf x e2)).w ≤ e.w + 100 := by
  have := wS_le2 (n := e.nk) (g := fun i => (updA e.kf x e2 i).w) (h := fun i => (e.kf i).w) (d := 100) (x := x) (fun i _ hne => by unfold updA; rw [if_neg hne]; exact Nat.le_refl _) (by unfold updA; rw [if_pos rfl]; exact h2)
  cases e with
  | nil => exact Nat.le_add_left 1 99
  | mk op' vn' vd' um' uh' ud' nm' cnt' mode' nk kf =>
    simp only [Ex.w, Ex.nk, Ex.kf] at this ⊢
    omega
theorem w_one (x : Int) (e : Ex) : (eOp x 1 (k1 e)).w = 1 + e.w := by
  show 1 + (0 + (k1 e 0).w) = _
  rw [Nat.zero_add]; rfl
theorem argEx' {mem : List Row} {L : List Nat} {op vn vd um uh ud : Int} {nm : ByteArray} {cnt mode : Int} {nk : Nat} {kf : Nat → Ex} {p : PV} (h : ArgOk mem L p (.vsl nk 10 (tF cX kf))) :
    ArgOk mem L (.agg 10 (nthP [vi op, vi vn, vi vd, vi um, vi uh, vi ud, vs nm, vi cnt, vi mode, p])) (vX (.mk op vn vd um uh ud nm cnt mode nk kf)) := argEx h
theorem argKx {mem : List Row} {L : List Nat} {l : Nat} {a : Ex} (hkc : a.kc = tF cX a.kf) (hr : rowAt mem l = some ⟨.own, false, 1, 10, fun x y => nthP [vi a.op, vi a.vn, vi a.vd, vi a.um, vi a.uh, vi a.ud, vs a.nm, vi a.cnt, vi a.mode, .vsl a.nk 10 (tF cX a.kf)] (x * 10 + y)⟩) (hL : l ∈ L) : ArgOk mem L (.lsl l 0 1) (.vsl 1 10 (tF cX (k1 a))) := by
  rw [← hkc] at hr
  exact argK1 (op := 0) (vn := 0) (vd := 0) (um := 0) (uh := 0) (ud := 0) (nm := ⟨#[]⟩) (cnt := 0) (mode := 0) hr hL
theorem argLslP {mem : List Row} {L : List Nat} {l n n' sz : Nat} {s : RS} {one : Bool} {f g : Nat → Nat → PV} (hr : rowAt mem l = some ⟨s, one, n', sz, g⟩) (hs : s.live) (hL : l ∈ L) (hn : n ≤ n') (hc : ∀ a, a < n → ∀ b, b < sz → ArgOk mem L (g a b) (f a b)) : ArgOk mem L (.lsl l 0 n) (.vsl n sz f) :=
  argLsl' (r := ⟨s, one, n', sz, g⟩) hr hs hL (by simpa using hn) fun a ha b hb => by rw [Nat.zero_add]; exact hc a ha b hb
theorem cellX {mem : List Row} {L : List Nat} {a1 a2 a3 a4 a5 a6 a7 a8 : Int} {nm : ByteArray} {p q : PV} (h : ArgOk mem L p q) : ∀ (i : Nat), i < 1 → ∀ j, j < 10 → ArgOk mem L (nthP [vi a1, vi a2, vi a3, vi a4, vi a5, vi a6, vs nm, vi a7, vi a8, p] j) (nthP [vi a1, vi a2, vi a3, vi a4, vi a5, vi a6, vs nm, vi a7, vi a8, q] j) := fun i hi j hj => by
  rcases c10 hj with rfl | rfl | rfl | rfl | rfl | rfl | rfl | rfl | rfl | rfl
  iterate 9 exact argVal
  exact h
abbrev rZX : Row := ⟨.own, true, 1, 10, fun _ => nthP [vi 0, vi 0, vi 0, vi 0, vi 0, vi 0, vs ⟨#[]⟩, vi 0, vi 0, .val (.slice none 0 0)]⟩
abbrev SpX (c : Nat) (e : Ex) : Prop := TapC G.P 8 [vX e] (fun r => ∃ e', r = vX e' ∧ BK (c + 1) e' ∧ e'.w ≤ e.w + 100)
abbrev SpPost (c m n : Nat) (g : Nat → Int) : PV → Row → Prop := fun r row' => (∃ e', r = vX e' ∧ BK (c + 1) e' ∧ e'.w ≤ m) ∧ ∃ at' : Int, 0 ≤ at' ∧ at' ≤ n ∧ row' = tapeRow n g at'
set_option maxHeartbeats 8000000 in
theorem spoil_rest (c : Nat) (hc3 : 3 ≤ c) (hc : c ≤ 100) (hE : ∀ t, t = t0 ∨ t = tM ∨ t = tH ∨ t = tR ∨ t = tB → TapC G.P 6 [vT t, vi 2, vi 5] (fun r => ∃ e, r = vX e ∧ BK 3 e ∧ e.w ≤ 100)) (e : Ex) (hb : BK c e) (n : Nat) (g : Nat → Int) (hn : n ≤ 9223372036854775807) (Γ : Fr) (hk : Γ.k0 = 1) (at_ : Int) (b1 : 0 ≤ at_) (b2 : at_ ≤ n) :
    PWp G.toPg Tryz.f8.ntmps Γ (dropS 2 (Tryz.f8.body.getD .skip)) ⟨[(0, .ptr 0 0 0), (3, .ptr 1 0 0), (4, .ptr 2 0 0)], [tapeRow n g at_, rX18 e, rZX]⟩ (KretP G.tab Tryz.f8.results.toList (SpPost c (e.w + 100) n g)) := by
  have hnk := hb.nk
  have hv := hb.bd.v
  have hs := hb.bd.s
  refine pseq ?_
  refine pcut (fun st => ∃ (at' : Int) (e' : Ex), 0 ≤ at' ∧ at' ≤ n ∧ BK (c + 1) e' ∧ e'.w ≤ e.w + 100 ∧ e'.kc = tF cX e'.kf ∧ st = ⟨[(0, .ptr 0 0 0), (3, .ptr 1 0 0), (4, .ptr 2 0 0)], [tapeRow n g at', rX18 e', rZX]⟩) ?_ ?_
  · repeat' (first | refine yo ?_ ?_ | refine yw ?_ ?_ | refine yk ?_ ?_ | exact trivial | with_reducible refine wA ?_ ?_ | refine ys ?_ ?_ | refine xs_done ?_ | refine yl ?_ ?_ | (refine tn1 hn ?_; rintro at_ b1 b2 x hx1 hx2) | refine w8 ?_ | refine w9 ?_ | refine w1 ?_ | refine w2 ?_ | refine w3 ?_ | refine w4 ?_ | refine w5 ?_ | refine w6 ?_ | refine w7 ?_ | refine yo0 ?_ ?_ | refine yw0 ?_ ?_ | exact qq | fail)
    rcases (by omega : x = 0 ∨ x = 1 ∨ x = 2 ∨ x = 3 ∨ x = 4 ∨ x = 5 ∨ x = 6 ∨ x = 7 ∨ x = 8) with rfl | rfl | rfl | rfl | rfl | rfl | rfl | rfl | rfl
    · repeat' (first | refine yo ?_ ?_ | refine yw ?_ ?_ | refine yk ?_ ?_ | exact trivial | with_reducible refine wA ?_ ?_ | refine ys ?_ ?_ | refine xs_done ?_ | refine yl ?_ ?_ | (refine tn1 hn ?_; rintro at_ b1 b2 x hx1 hx2) | refine w8 ?_ | refine w9 ?_ | refine w1 ?_ | refine w2 ?_ | refine w3 ?_ | refine w4 ?_ | refine w5 ?_ | refine w6 ?_ | refine w7 ?_ | refine yo0 ?_ ?_ | refine yw0 ?_ ?_ | exact qq | fail)
      refine xdone ?_
      exact kcut (st' := ⟨[(0, .ptr 0 0 0), (3, .ptr 1 0 0), (4, .ptr 2 0 0)], [tapeRow n g _, rX18 (Ex.mk _ e.vn e.vd e.um e.uh e.ud e.nm e.cnt e.mode e.nk e.kf), rZX]⟩) (can_rowsv [0, 1, 2] (k0_sel hk rfl) rfl (.cons rfl (RowEq.cl (tape_cl _ _ _)) (.cons rfl (RowEq.cl (rX18_cl (Ex.mk _ e.vn e.vd e.um e.uh e.ud e.nm e.cnt e.mode e.nk e.kf))) (.cons rfl rqq .nil))) tmq) ⟨_, _, by assumption, by assumption, (hb.set ⟨hv.1, hv.2, hs⟩).mono (by omega), Nat.le_trans (w_set e) (by omega), rfl, rfl⟩
    · repeat' (first | refine yo ?_ ?_ | refine yw ?_ ?_ | refine yk ?_ ?_ | exact trivial | with_reducible refine wA ?_ ?_ | refine ys ?_ ?_ | refine xs_done ?_ | refine yl ?_ ?_ | exact ⟨trivial, (by rw [hk]; exact Nat.le_of_ble_eq_true rfl), Nat.le_refl _, (show (0 + e.nk) * 104 ≤ 140737488355328 from by omega), (show 0 + e.nk ≤ 9223372036854775807 from by omega)⟩ | exact ⟨Nat.le_refl _, (by rw [hk]; exact Nat.le_of_ble_eq_true rfl), (show 0 + (0 + e.nk) ≤ 0 + e.nk from by omega), (show (0 + e.nk + 1) * 104 ≤ 140737488355328 from by omega), (show 0 + e.nk + 1 ≤ 9223372036854775807 from by omega)⟩ | refine w8 ?_ | refine w9 ?_ | refine w1 ?_ | refine w2 ?_ | refine w3 ?_ | refine w4 ?_ | refine w5 ?_ | refine w6 ?_ | refine w7 ?_ | refine yo0 ?_ ?_ | refine yw0 ?_ ?_ | exact qq | fail)
      refine xdone ?_
      refine kcut (st' := ⟨[(0, .ptr 0 0 0), (3, .ptr 1 0 0), (4, .ptr 2 0 0)], [tapeRow n g _, rX18 (Ex.mk e.op e.vn e.vd e.um e.uh e.ud e.nm e.cnt e.mode (e.nk + 1) (snocA e.nk e.kf eT)), rZX]⟩) ((can_frzb [6] 1 (fun _ => nthP [vi e.op, vi e.vn, vi e.vd, vi e.um, vi e.uh, vi e.ud, vs e.nm, vi e.cnt, vi e.mode, .vsl (e.nk + 1) 10 (tF cX (snocA e.nk e.kf eT))]) (tm := [(0, .ptr 0 0 0), (3, .ptr 1 0 0), (4, .ptr 2 0 0)]) (by intro l hl; rw [hk]; simp at hl; omega) rfl rfl rfl (fun i hi j hj => ?_) (by exact ⟨.inl rfl, .inl rfl, .inl rfl, trivial⟩)).trans (can_rowsv [0, 1, 2] (k0_sel hk rfl) rfl (.cons rfl (RowEq.cl (tape_cl _ _ _)) (.cons rfl (RowEq.cl (rX18_cl (Ex.mk e.op e.vn e.vd e.um e.uh e.ud e.nm e.cnt e.mode (e.nk + 1) (snocA e.nk e.kf eT)))) (.cons rfl rqq .nil))) tmq)) ⟨_, _, by assumption, by assumption, .mk ⟨hv.1, hv.2, hs⟩ (by omega) (fun i hi => ?_), Nat.le_trans (w_snoc e) (by omega), rfl, rfl⟩
      · rcases c10 hj with rfl | rfl | rfl | rfl | rfl | rfl | rfl | rfl | rfl | rfl
        iterate 9 exact argVal
        show ArgOk _ _ (.lsl 6 0 (0 + e.nk + 1)) (.vsl (e.nk + 1) 10 (tF cX (snocA e.nk e.kf eT)))
        rw [Nat.zero_add e.nk]
        refine argLslP rfl trivial (List.Mem.head _) (Nat.le_refl _) fun a ha b hb => ?_
        show ArgOk _ _ (appF e.nk _ _ a b) (nthP (cX (snocA e.nk e.kf eT a)) b)
        unfold snocA
        by_cases e1 : a < e.nk
        · rw [appF_lt _ _ e1]
          show ArgOk _ _ (tF cX e.kf (0 + a) b) _
          rw [Nat.zero_add a, if_pos e1]
          exact argCl (tF_cl cX_cl e.kf a b)
        · obtain rfl : a = e.nk := by omega
          rw [appF_ge _ _ (Nat.le_refl _), Nat.sub_self, if_neg e1]
          have hb : b < 10 := hb
          rcases c10 hb with rfl | rfl | rfl | rfl | rfl | rfl | rfl | rfl | rfl | rfl
          iterate 9 exact argVal
          exact argNil
      · unfold snocA
        by_cases e1 : i < e.nk
        · rw [if_pos e1]; exact (hb.k e1).mono (by omega)
        · rw [if_neg e1]; exact .mk ⟨by decide, by decide, by decide⟩ (by omega) (fun i hi => absurd hi (Nat.not_lt_zero i))
    · repeat' (first | refine yo ?_ ?_ | refine yw ?_ ?_ | refine yk ?_ ?_ | exact trivial | with_reducible refine wA ?_ ?_ | refine ys ?_ ?_ | refine xs_done ?_ | refine yl ?_ ?_ | (refine tn1 hn ?_; rintro at_ b1 b2 x hx1 hx2) | refine w8 ?_ | refine w9 ?_ | refine w1 ?_ | refine w2 ?_ | refine w3 ?_ | refine w4 ?_ | refine w5 ?_ | refine w6 ?_ | refine w7 ?_ | refine yo0 ?_ ?_ | refine yw0 ?_ ?_ | exact qq | fail)
      rcases (by omega : x = 0 ∨ x = 1 ∨ x = 2 ∨ x = 3 ∨ x = 4 ∨ x = 5) with rfl | rfl | rfl | rfl | rfl | rfl
      all_goals
        repeat' (first | refine yo ?_ ?_ | refine yw ?_ ?_ | refine yk ?_ ?_ | exact trivial | with_reducible refine wA ?_ ?_ | refine ys ?_ ?_ | refine xs_done ?_ | refine yl ?_ ?_ | refine w8 ?_ | refine w9 ?_ | refine w1 ?_ | refine w2 ?_ | refine w3 ?_ | refine w4 ?_ | refine w5 ?_ | refine w6 ?_ | refine w7 ?_ | refine yo0 ?_ ?_ | refine yw0 ?_ ?_ | exact qq | fail)
        refine xdone ?_
        exact kcut (st' := ⟨[(0, .ptr 0 0 0), (3, .ptr 1 0 0), (4, .ptr 2 0 0)], [tapeRow n g _, rX18 (Ex.mk e.op e.vn e.vd e.um e.uh e.ud _ e.cnt e.mode e.nk e.kf), rZX]⟩) (can_rowsv [0, 1, 2] (k0_sel hk rfl) rfl (.cons rfl (RowEq.cl (tape_cl _ _ _)) (.cons rfl (RowEq.cl (rX18_cl (Ex.mk e.op e.vn e.vd e.um e.uh e.ud _ e.cnt e.mode e.nk e.kf))) (.cons rfl rqq .nil))) tmq) ⟨_, _, by assumption, by assumption, (hb.set ⟨hv.1, hv.2, by decide⟩).mono (by omega), Nat.le_trans (w_set e) (by omega), rfl, rfl⟩
    · repeat' (first | refine yo ?_ ?_ | refine yw ?_ ?_ | refine yk ?_ ?_ | exact trivial | with_reducible refine wA ?_ ?_ | refine ys ?_ ?_ | refine xs_done ?_ | refine yl ?_ ?_ | (refine tn1 hn ?_; rintro at_ b1 b2 x hx1 hx2) | refine w8 ?_ | refine w9 ?_ | refine w1 ?_ | refine w2 ?_ | refine w3 ?_ | refine w4 ?_ | refine w5 ?_ | refine w6 ?_ | refine w7 ?_ | refine yo0 ?_ ?_ | refine yw0 ?_ ?_ | exact qq | fail)
      rcases (by omega : x = 0 ∨ x = 1 ∨ x = 2 ∨ x = 3) with rfl | rfl | rfl | rfl
      all_goals
        repeat' (first | refine yo ?_ ?_ | refine yw ?_ ?_ | refine yk ?_ ?_ | exact trivial | with_reducible refine wA ?_ ?_ | refine ys ?_ ?_ | refine xs_done ?_ | refine yl ?_ ?_ | refine w8 ?_ | refine w9 ?_ | refine w1 ?_ | refine w2 ?_ | refine w3 ?_ | refine w4 ?_ | refine w5 ?_ | refine w6 ?_ | refine w7 ?_ | refine yo0 ?_ ?_ | refine yw0 ?_ ?_ | exact qq | fail)
        refine xdone ?_
        exact kcut (st' := ⟨[(0, .ptr 0 0 0), (3, .ptr 1 0 0), (4, .ptr 2 0 0)], [tapeRow n g _, rX18 (Ex.mk e.op _ _ e.um e.uh e.ud e.nm e.cnt e.mode e.nk e.kf), rZX]⟩) (can_rowsv [0, 1, 2] (k0_sel hk rfl) rfl (.cons rfl (RowEq.cl (tape_cl _ _ _)) (.cons rfl (RowEq.cl (rX18_cl (Ex.mk e.op _ _ e.um e.uh e.ud e.nm e.cnt e.mode e.nk e.kf))) (.cons rfl rqq .nil))) tmq) ⟨_, _, by assumption, by assumption, (hb.set ⟨by decide, by decide, hs⟩).mono (by omega), Nat.le_trans (w_set e) (by omega), rfl, rfl⟩
    · repeat' (first | refine yo ?_ ?_ | refine yw ?_ ?_ | refine yk ?_ ?_ | exact trivial | with_reducible refine wA ?_ ?_ | refine ys ?_ ?_ | refine xs_done ?_ | refine yl ?_ ?_ | (refine pop_tapl (G := G) rfl rfl rfl rfl rfl rfl rfl rfl rfl rfl rfl (by omega) rfl (fun _ => rfl) rfl (pick_t _ _ rfl (by decide) (by decide)) hn (by assumption) (by assumption) ?_; rintro at_ _ b1 b2 ⟨x, rfl, hx⟩; simp only [unL, List.mem_cons, List.not_mem_nil, or_false] at hx) | refine w8 ?_ | refine w9 ?_ | refine w1 ?_ | refine w2 ?_ | refine w3 ?_ | refine w4 ?_ | refine w5 ?_ | refine w6 ?_ | refine w7 ?_ | refine yo0 ?_ ?_ | refine yw0 ?_ ?_ | exact qq | fail)
      refine xdone ?_
      exact kcut (st' := ⟨[(0, .ptr 0 0 0), (3, .ptr 1 0 0), (4, .ptr 2 0 0)], [tapeRow n g _, rX18 (Ex.mk e.op e.vn e.vd _ _ _ e.nm e.cnt e.mode e.nk e.kf), rZX]⟩) (can_rowsv [0, 1, 2] (k0_sel hk rfl) rfl (.cons rfl (RowEq.cl (tape_cl _ _ _)) (.cons rfl (RowEq.cl (rX18_cl (Ex.mk e.op e.vn e.vd _ _ _ e.nm e.cnt e.mode e.nk e.kf))) (.cons rfl rqq .nil))) tmq) ⟨_, _, by assumption, by assumption, (hb.set ⟨hv.1, hv.2, hs⟩).mono (by omega), Nat.le_trans (w_set e) (by omega), rfl, rfl⟩
    · repeat' (first | refine yo ?_ ?_ | refine yw ?_ ?_ | refine yk ?_ ?_ | exact trivial | with_reducible refine wA ?_ ?_ | refine ys ?_ ?_ | refine xs_done ?_ | refine yl ?_ ?_ | (refine pop_tapl (G := G) rfl rfl rfl rfl rfl rfl rfl rfl rfl rfl rfl (by omega) rfl (fun _ => rfl) rfl (pick_t _ _ rfl (by decide) (by decide)) hn (by assumption) (by assumption) ?_; rintro at_ _ b1 b2 ⟨x, rfl, hx⟩; simp only [unL, List.mem_cons, List.not_mem_nil, or_false] at hx) | refine w8 ?_ | refine w9 ?_ | refine w1 ?_ | refine w2 ?_ | refine w3 ?_ | refine w4 ?_ | refine w5 ?_ | refine w6 ?_ | refine w7 ?_ | refine yo0 ?_ ?_ | refine yw0 ?_ ?_ | exact qq | fail)
      refine xdone ?_
      exact kcut (st' := ⟨[(0, .ptr 0 0 0), (3, .ptr 1 0 0), (4, .ptr 2 0 0)], [tapeRow n g _, rX18 (Ex.mk e.op e.vn e.vd e.um e.uh e.ud e.nm _ e.mode e.nk e.kf), rZX]⟩) (can_rowsv [0, 1, 2] (k0_sel hk rfl) rfl (.cons rfl (RowEq.cl (tape_cl _ _ _)) (.cons rfl (RowEq.cl (rX18_cl (Ex.mk e.op e.vn e.vd e.um e.uh e.ud e.nm _ e.mode e.nk e.kf))) (.cons rfl rqq .nil))) tmq) ⟨_, _, by assumption, by assumption, (hb.set ⟨hv.1, hv.2, hs⟩).mono (by omega), Nat.le_trans (w_set e) (by omega), rfl, rfl⟩
    · repeat' (first | refine yo ?_ ?_ | refine yw ?_ ?_ | refine yk ?_ ?_ | exact trivial | with_reducible refine wA ?_ ?_ | refine ys ?_ ?_ | refine xs_done ?_ | refine yl ?_ ?_ | (refine pop_tapl (G := G) rfl rfl rfl rfl rfl rfl rfl rfl rfl rfl rfl (by omega) rfl (fun _ => rfl) rfl (pick_t _ _ rfl (by decide) (by decide)) hn (by assumption) (by assumption) ?_; rintro at_ _ b1 b2 ⟨x, rfl, hx⟩; simp only [unL, List.mem_cons, List.not_mem_nil, or_false] at hx) | refine w8 ?_ | refine w9 ?_ | refine w1 ?_ | refine w2 ?_ | refine w3 ?_ | refine w4 ?_ | refine w5 ?_ | refine w6 ?_ | refine w7 ?_ | refine yo0 ?_ ?_ | refine yw0 ?_ ?_ | exact qq | fail)
      refine xdone ?_
      exact kcut (st' := ⟨[(0, .ptr 0 0 0), (3, .ptr 1 0 0), (4, .ptr 2 0 0)], [tapeRow n g _, rX18 (Ex.mk e.op e.vn e.vd e.um e.uh e.ud e.nm e.cnt _ e.nk e.kf), rZX]⟩) (can_rowsv [0, 1, 2] (k0_sel hk rfl) rfl (.cons rfl (RowEq.cl (tape_cl _ _ _)) (.cons rfl (RowEq.cl (rX18_cl (Ex.mk e.op e.vn e.vd e.um e.uh e.ud e.nm e.cnt _ e.nk e.kf))) (.cons rfl rqq .nil))) tmq) ⟨_, _, by assumption, by assumption, (hb.set ⟨hv.1, hv.2, hs⟩).mono (by omega), Nat.le_trans (w_set e) (by omega), rfl, rfl⟩
    · repeat' (first | refine yo ?_ ?_ | refine yw ?_ ?_ | refine yk ?_ ?_ | exact trivial | with_reducible refine wA ?_ ?_ | refine ys ?_ ?_ | refine xs_done ?_ | refine yl ?_ ?_ | (refine t1 type_t hn ?_; rintro at_ _ b1 b2 ⟨t, rfl, ht⟩) | (refine t2 type_t hn ?_; rintro at_ _ b1 b2 ⟨t, rfl, ht⟩) | (refine t3 type_t hn ?_; rintro at_ _ b1 b2 ⟨t, rfl, ht⟩) | refine w8 ?_ | refine w9 ?_ | refine w1 ?_ | refine w2 ?_ | refine w3 ?_ | refine w4 ?_ | refine w5 ?_ | refine w6 ?_ | refine w7 ?_ | refine yo0 ?_ ?_ | refine yw0 ?_ ?_ | exact qq | fail)
      have hE2 := hE t ht
      repeat' (first | refine yo ?_ ?_ | refine yw ?_ ?_ | refine yk ?_ ?_ | exact trivial | with_reducible refine wA ?_ ?_ | refine ys ?_ ?_ | refine xs_done ?_ | refine yl ?_ ?_ | (refine t1 hE2 hn ?_; rintro at_ _ b1 b2 ⟨e2, rfl, he2⟩) | (refine t2 hE2 hn ?_; rintro at_ _ b1 b2 ⟨e2, rfl, he2⟩) | (refine t3 hE2 hn ?_; rintro at_ _ b1 b2 ⟨e2, rfl, he2⟩) | refine w8 ?_ | refine w9 ?_ | refine w1 ?_ | refine w2 ?_ | refine w3 ?_ | refine w4 ?_ | refine w5 ?_ | refine w6 ?_ | refine w7 ?_ | refine yo0 ?_ ?_ | refine yw0 ?_ ?_ | exact qq | fail)
      exact ktap rfl b1 b2 rfl ⟨Nat.zero_lt_one, trivial⟩ rfl ⟨e2, rfl, he2.1.mono (by omega), by have := he2.2; omega⟩
    · repeat' (first | refine yo ?_ ?_ | refine yw ?_ ?_ | refine yk ?_ ?_ | exact trivial | with_reducible refine wA ?_ ?_ | refine ys ?_ ?_ | refine xs_done ?_ | refine yl ?_ ?_ | (refine tn1 hn ?_; rintro at_ b1 b2 x hx1 hx2) | refine w8 ?_ | refine w9 ?_ | refine w1 ?_ | refine w2 ?_ | refine w3 ?_ | refine w4 ?_ | refine w5 ?_ | refine w6 ?_ | refine w7 ?_ | refine yo0 ?_ ?_ | refine yw0 ?_ ?_ | exact qq | fail)
      obtain ⟨y, rfl⟩ : ∃ y : Nat, x = y := ⟨x.toNat, by omega⟩
      refine pcan (st' := ⟨[(0, .ptr 0 0 0), (3, .ptr 1 0 0), (4, .ptr 2 0 0), (7, vi y)], [tapeRow n g at_, rX18 e, rZX]⟩) (can_rowsv [0, 1, 2] (k0_sel hk rfl) rfl (.cons rfl (RowEq.cl (tape_cl _ _ _)) (.cons rfl (RowEq.cl (rX18_cl e)) (.cons rfl rqq .nil))) tmq) ?_
      refine ploop (fun q st => ∃ (at' : Int) (e' : Ex) (y : Nat), 0 ≤ at' ∧ at' ≤ n ∧ y ≤ 40 ∧ q = y ∧ BK (c + 1) e' ∧ e'.w + y ≤ e.w + 42 ∧ e'.kc = tF cX e'.kf ∧ st = ⟨[(0, .ptr 0 0 0), (3, .ptr 1 0 0), (4, .ptr 2 0 0), (7, vi y)], [tapeRow n g at', rX18 e', rZX]⟩) y ⟨at_, .mk e.op e.vn e.vd e.um e.uh e.ud e.nm e.cnt e.mode e.nk e.kf, y, b1, b2, by omega, rfl, (hb.set ⟨hv.1, hv.2, hs⟩).mono (by omega), by have := w_set e (op := e.op) (vn := e.vn) (vd := e.vd) (um := e.um) (uh := e.uh) (ud := e.ud) (nm := e.nm) (cnt := e.cnt) (mode := e.mode); omega, rfl, rfl⟩ ?_
      clear b1 b2 hx1 hx2
      rintro q _ ⟨at', e', y, b1, b2, hy, hq, he', hw', hkc, rfl⟩
      have hq := hq.symm
      subst hq
      repeat' (first | refine yo ?_ ?_ | refine yw ?_ ?_ | refine yk ?_ ?_ | exact trivial | with_reducible refine wA ?_ ?_ | refine ys ?_ ?_ | refine xs_done ?_ | refine yl ?_ ?_ | refine w8 ?_ | refine w9 ?_ | refine w1 ?_ | refine w2 ?_ | refine w3 ?_ | refine w4 ?_ | refine w5 ?_ | refine w6 ?_ | refine w7 ?_ | refine yo0 ?_ ?_ | refine yw0 ?_ ?_ | exact qq | fail)
      refine pcond rfl ?_ ?_ <;> intro hc1
      · have hc1 : 0 < y := by simpa using hc1
        have hwy : IntKind.i64.wrap ((y : Int) - 1) = ((y - 1 : Nat) : Int) := by rw [w64 (by omega) (by omega)]; omega
        repeat' (first | refine yo ?_ ?_ | refine yw ?_ ?_ | refine yk ?_ ?_ | exact trivial | with_reducible refine wA ?_ ?_ | refine ys ?_ ?_ | refine xs_done ?_ | refine yl ?_ ?_ | refine xs_startH (id := 11) [1,2] false [.take 0, .take 3] 5 rfl (by kernel_rfl) ?_ | refine BrAll.cons ?_ ?_ | exact BrAll.nil | refine xs_brT (n := 7) [0, 3] [(1, [], false, 4), (4, [.one 1, .one 2, .take 5, .one 6], true, 0)] (by decide +kernel) rfl (by kernel_rfl) (by kernel_rfl) ?_ | refine xs_brT (n := 7) [0, 1, 3] [(2, [.one 4, .take 5, .one 6], true, 0), (4, [.one 2, .take 5, .one 6], true, 0)] (by decide +kernel) rfl (by kernel_rfl) (by kernel_rfl) ?_ | refine ⟨_, [], true, rfl, rfl, stepOp_pst rfl ?_ ?_⟩ | (refine xs_one (ch := [_]) rfl rfl rfl (pst_tapl (G := G) rfl rfl rfl rfl rfl rfl rfl rfl rfl rfl rfl (by omega) rfl (fun _ => rfl) rfl (pick_t _ _ rfl (by decide) (by decide)) hn (by assumption) (by assumption) ?_); rintro at_ _ b1 b2 ⟨x, rfl, hx⟩; simp only [unL, List.mem_cons, List.not_mem_nil, or_false] at hx) | (refine ⟨_, [_], _, rfl, rfl, pst_tapl (G := G) rfl rfl rfl rfl rfl rfl rfl rfl rfl rfl rfl (by omega) rfl (fun _ => rfl) rfl (pick_t _ _ rfl (by decide) (by decide)) hn (by assumption) (by assumption) ?_⟩; rintro at_ _ b1 b2 ⟨x, rfl, hx⟩; simp only [unL, List.mem_cons, List.not_mem_nil, or_false] at hx) | refine w8 ?_ | refine w9 ?_ | refine w1 ?_ | refine w2 ?_ | refine w3 ?_ | refine w4 ?_ | refine w5 ?_ | refine w6 ?_ | refine w7 ?_ | refine yo0 ?_ ?_ | refine yw0 ?_ ?_ | exact qq | fail)
        all_goals
          refine xdone ?_
          rw [hwy]
          first
            | exact kloop_next (st' := ⟨[(0, .ptr 0 0 0), (3, .ptr 1 0 0), (4, .ptr 2 0 0), (7, vi ((y - 1 : Nat) : Int))], [tapeRow n g _, rX18 (eOp x 1 (k1 e')), rZX]⟩) (y - 1) ((can_frzb [3] 1 (fun _ => nthP [vi x, vi 0, vi 0, vi 0, vi 0, vi 0, vs ⟨#[]⟩, vi 0, vi 0, .vsl 1 10 (tF cX (k1 e'))]) (tm := [(0, .ptr 0 0 0), (3, .ptr 1 0 0), (4, .ptr 2 0 0), (7, vi ((y - 1 : Nat) : Int))]) (by intro l hl; rw [hk]; simp at hl; omega) rfl rfl rfl (cellX (argKx hkc rfl (List.Mem.head _))) (by exact ⟨.inl rfl, .inl rfl, .inl rfl, .inl rfl, trivial⟩)).trans (can_rowsv [0, 1, 2] (k0_sel hk rfl) rfl (.cons rfl (RowEq.cl (tape_cl _ _ _)) (.cons rfl (RowEq.cl (rX18_cl (eOp x 1 (k1 e')))) (.cons rfl rqq .nil))) tmq)) (by omega) ⟨_, eOp x 1 (k1 e'), y - 1, by assumption, by assumption, by omega, rfl, .mk ⟨by decide, by decide, by decide⟩ (by omega) (fun i hi => he'), (by rw [w_one]; omega), rfl, rfl⟩
            | exact kloop_next (st' := ⟨[(0, .ptr 0 0 0), (3, .ptr 1 0 0), (4, .ptr 2 0 0), (7, vi ((y - 1 : Nat) : Int))], [tapeRow n g _, rX18 (eOp x 1 (k1 e')), rZX]⟩) (y - 1) ((can_frzb [4] 1 (fun _ => nthP [vi x, vi 0, vi 0, vi 0, vi 0, vi 0, vs ⟨#[]⟩, vi 0, vi 0, .vsl 1 10 (tF cX (k1 e'))]) (tm := [(0, .ptr 0 0 0), (3, .ptr 1 0 0), (4, .ptr 2 0 0), (7, vi ((y - 1 : Nat) : Int))]) (by intro l hl; rw [hk]; simp at hl; omega) rfl rfl rfl (cellX (argKx hkc rfl (List.Mem.head _))) (by exact ⟨.inl rfl, .inl rfl, .inl rfl, .inl rfl, trivial⟩)).trans (can_rowsv [0, 1, 2] (k0_sel hk rfl) rfl (.cons rfl (RowEq.cl (tape_cl _ _ _)) (.cons rfl (RowEq.cl (rX18_cl (eOp x 1 (k1 e')))) (.cons rfl rqq .nil))) tmq)) (by omega) ⟨_, eOp x 1 (k1 e'), y - 1, by assumption, by assumption, by omega, rfl, .mk ⟨by decide, by decide, by decide⟩ (by omega) (fun i hi => he'), (by rw [w_one]; omega), rfl, rfl⟩
      · repeat' (first | refine yo ?_ ?_ | refine yw ?_ ?_ | refine yk ?_ ?_ | exact trivial | with_reducible refine wA ?_ ?_ | refine ys ?_ ?_ | refine xs_done ?_ | refine yl ?_ ?_ | refine w8 ?_ | refine w9 ?_ | refine w1 ?_ | refine w2 ?_ | refine w3 ?_ | refine w4 ?_ | refine w5 ?_ | refine w6 ?_ | refine w7 ?_ | refine yo0 ?_ ?_ | refine yw0 ?_ ?_ | exact qq | fail)
        refine xdone ?_
        exact kcut (st' := ⟨[(0, .ptr 0 0 0), (3, .ptr 1 0 0), (4, .ptr 2 0 0)], [tapeRow n g _, rX18 e', rZX]⟩) (can_rowsv [0, 1, 2] (k0_sel hk rfl) rfl (.cons rfl (RowEq.cl (tape_cl _ _ _)) (.cons rfl (RowEq.cl (rX18_cl e')) (.cons rfl rqq .nil))) tmq) ⟨_, e', by assumption, by assumption, he', by omega, hkc, rfl⟩
  · rintro _ ⟨at', e', b1, b2, he, hw, hkc, rfl⟩
    repeat' (first | refine yo ?_ ?_ | refine yw ?_ ?_ | refine yk ?_ ?_ | exact trivial | with_reducible refine wA ?_ ?_ | refine ys ?_ ?_ | refine xs_done ?_ | refine yl ?_ ?_ | refine w8 ?_ | refine w9 ?_ | refine w1 ?_ | refine w2 ?_ | refine w3 ?_ | refine w4 ?_ | refine w5 ?_ | refine w6 ?_ | refine w7 ?_ | refine yo0 ?_ ?_ | refine yw0 ?_ ?_ | exact qq | fail)
    refine xdone ?_
    exact ktap rfl b1 b2 rfl ⟨Nat.zero_lt_one, trivial⟩ rfl ⟨e', by show _ = PV.agg 10 (nthP [_, _, _, _, _, _, _, _, _, .vsl e'.nk 10 e'.kc]); rw [hkc]; rfl, he, hw⟩
set_option maxHeartbeats 8000000 in
theorem spoil_one (c : Nat) (hc3 : 3 ≤ c) (hc : c ≤ 100) (hE : ∀ t, t = t0 ∨ t = tM ∨ t = tH ∨ t = tR ∨ t = tB → TapC G.P 6 [vT t, vi 2, vi 5] (fun r => ∃ e, r = vX e ∧ BK 3 e ∧ e.w ≤ 100)) (e : Ex) (hb : BK c e) (ih : ∀ i, i < e.nk → SpX c (e.kf i)) : SpX c e := by
  intro n g at_ hn h1 h2
  have hnk := hb.nk
  have hv := hb.bd.v
  have hs := hb.bd.s
  refine ptr_of (G := G.toPg) (fn := Tryz.f8) Tryz.func8 rfl rfl rfl ?_; intro Γ hk
  refine pseq ?_
  refine pcut (fun st => st = ⟨[(0, .ptr 0 0 0), (3, .ptr 1 0 0), (4, .ptr 2 0 0)], [tapeRow n g at_, rX18 e, rZX]⟩) ?_ ?_
  · repeat' (first | refine yo ?_ ?_ | refine yw ?_ ?_ | refine yk ?_ ?_ | exact trivial | with_reducible refine wA ?_ ?_ | refine ys ?_ ?_ | refine xs_done ?_ | refine yl ?_ ?_ | refine w8 ?_ | refine w9 ?_ | refine w1 ?_ | refine w2 ?_ | refine w3 ?_ | refine w4 ?_ | refine w5 ?_ | refine w6 ?_ | refine w7 ?_ | refine yo0 ?_ ?_ | refine yw0 ?_ ?_ | exact qq | fail)
    exact kcut (st' := ⟨[(0, .ptr 0 0 0), (3, .ptr 1 0 0), (4, .ptr 2 0 0)], [tapeRow n g at_, rX18 e, rZX]⟩) (can_rowsv [0, 1, 2] (k0_sel hk rfl) rfl (.cons rfl (RowEq.cl (tape_cl _ _ _)) (.cons rfl (var_eq ⟨PEq.refl _, PEq.refl _, PEq.refl _, PEq.refl _, PEq.refl _, PEq.refl _, PEq.refl _, PEq.refl _, PEq.refl _, peqK18 e, trivial⟩) (.cons rfl rqq .nil))) tmq) rfl
  rintro _ rfl
  refine pseq ?_
  refine pcut (fun st => ∃ (at' : Int), 0 ≤ at' ∧ at' ≤ n ∧ st = ⟨[(0, .ptr 0 0 0), (3, .ptr 1 0 0), (4, .ptr 2 0 0)], [tapeRow n g at', rX18 e, rZX]⟩) ?_ ?_
  refine pseq ?_
  refine pcut (fun st => ∃ (at' : Int) (x : Bool), 0 ≤ at' ∧ at' ≤ n ∧ (x = true → 0 < e.nk) ∧ st = ⟨[(0, .ptr 0 0 0), (3, .ptr 1 0 0), (4, .ptr 2 0 0), (16, vb x)], [tapeRow n g at', rX18 e, rZX]⟩) ?_ ?_
  · have hx : ∃ b, decide (0 < (e.nk : Int)) = b := ⟨_, rfl⟩
    obtain ⟨b, hb0⟩ := hx
    repeat' (first | refine yo ?_ ?_ | refine yw ?_ ?_ | refine yk ?_ ?_ | exact trivial | with_reducible refine wA ?_ ?_ | refine ys ?_ ?_ | refine xs_done ?_ | refine yl ?_ ?_ | refine w8 ?_ | refine w9 ?_ | refine w1 ?_ | refine w2 ?_ | refine w3 ?_ | refine w4 ?_ | refine w5 ?_ | refine w6 ?_ | refine w7 ?_ | refine yo0 ?_ ?_ | refine yw0 ?_ ?_ | exact qq | fail)
    rw [hb0]
    cases b
    · repeat' (first | refine yo ?_ ?_ | refine yw ?_ ?_ | refine yk ?_ ?_ | exact trivial | with_reducible refine wA ?_ ?_ | refine ys ?_ ?_ | refine xs_done ?_ | refine yl ?_ ?_ | (refine pop_gfalse rfl rfl rfl rfl ?_) | refine w8 ?_ | refine w9 ?_ | refine w1 ?_ | refine w2 ?_ | refine w3 ?_ | refine w4 ?_ | refine w5 ?_ | refine w6 ?_ | refine w7 ?_ | refine yo0 ?_ ?_ | refine yw0 ?_ ?_ | exact qq | fail)
      refine xdone ?_
      exact kcut (st' := ⟨[(0, .ptr 0 0 0), (3, .ptr 1 0 0), (4, .ptr 2 0 0), (16, vb false)], [tapeRow n g at_, rX18 e, rZX]⟩) (can_rowsv [0, 1, 2] (k0_sel hk rfl) rfl (.cons rfl (RowEq.cl (tape_cl _ _ _)) (.cons rfl (RowEq.cl (rX18_cl e)) (.cons rfl rqq .nil))) tmq) ⟨at_, false, h1, h2, (fun h => by cases h), rfl⟩
    · have hpos : 0 < e.nk := by simpa using hb0
      repeat' (first | refine yo ?_ ?_ | refine yw ?_ ?_ | refine yk ?_ ?_ | exact trivial | with_reducible refine wA ?_ ?_ | refine ys ?_ ?_ | refine xs_done ?_ | refine yl ?_ ?_ | (refine pop_opt 13 rfl rfl ?_) | (refine pop_unguard rfl rfl ?_) | (refine tn1 hn ?_; rintro at_ b1 b2 x hx1 hx2) | refine w8 ?_ | refine w9 ?_ | refine w1 ?_ | refine w2 ?_ | refine w3 ?_ | refine w4 ?_ | refine w5 ?_ | refine w6 ?_ | refine w7 ?_ | refine yo0 ?_ ?_ | refine yw0 ?_ ?_ | exact qq | fail)
      refine xdone ?_
      exact kcut (st' := ⟨[(0, .ptr 0 0 0), (3, .ptr 1 0 0), (4, .ptr 2 0 0), (16, vb _)], [tapeRow n g _, rX18 e, rZX]⟩) (can_rowsv [0, 1, 2] (k0_sel hk rfl) rfl (.cons rfl (RowEq.cl (tape_cl _ _ _)) (.cons rfl (RowEq.cl (rX18_cl e)) (.cons rfl rqq .nil))) tmq) ⟨_, _, b1, b2, (fun _ => hpos), rfl⟩
  rintro _ ⟨at', x, b1, b2, hx, rfl⟩
  refine pcond rfl ?_ ?_
  · intro hc1
    have hpos := hx hc1
    repeat' (first | refine yo ?_ ?_ | refine yw ?_ ?_ | refine yk ?_ ?_ | exact trivial | with_reducible refine wA ?_ ?_ | refine ys ?_ ?_ | refine xs_done ?_ | refine yl ?_ ?_ | (refine tn1 hn ?_; rintro at_ b1 b2 x hx1 hx2) | exact ⟨trivial, (by rw [hk]; exact Nat.le_of_ble_eq_true rfl), Nat.le_refl _, (show (0 + e.nk) * 104 ≤ 140737488355328 from by omega), (show 0 + e.nk ≤ 9223372036854775807 from by omega)⟩ | refine w8 ?_ | refine w9 ?_ | refine w1 ?_ | refine w2 ?_ | refine w3 ?_ | refine w4 ?_ | refine w5 ?_ | refine w6 ?_ | refine w7 ?_ | refine yo0 ?_ ?_ | refine yw0 ?_ ?_ | exact qq | fail)
    have hxk : x.toNat < e.nk := by omega
    have ihx : SpX c (e.kf (0 + x.toNat - 0)) := by rw [show 0 + x.toNat - 0 = x.toNat by omega]; exact ih _ hxk
    repeat' (first | refine yo ?_ ?_ | refine yw ?_ ?_ | refine yk ?_ ?_ | exact trivial | with_reducible refine wA ?_ ?_ | refine ys ?_ ?_ | refine xs_done ?_ | refine yl ?_ ?_ | (refine t1 ihx hn ?_; rintro at_ _ b1 b2 ⟨e2, rfl, he2⟩) | (refine t2 ihx hn ?_; rintro at_ _ b1 b2 ⟨e2, rfl, he2⟩) | (refine t3 ihx hn ?_; rintro at_ _ b1 b2 ⟨e2, rfl, he2⟩) | refine w8 ?_ | refine w9 ?_ | refine w1 ?_ | refine w2 ?_ | refine w3 ?_ | refine w4 ?_ | refine w5 ?_ | refine w6 ?_ | refine w7 ?_ | refine yo0 ?_ ?_ | refine yw0 ?_ ?_ | exact qq | fail)
    rw [Nat.zero_add e.nk, Nat.zero_add x.toNat]
    refine ktapL [4] rfl b1 b2 (by intro l hl; simp at hl; omega) rfl ⟨Nat.zero_lt_one, trivial⟩ (qs := [vX (Ex.mk e.op e.vn e.vd e.um e.uh e.ud e.nm e.cnt e.mode e.nk (updA e.kf x.toNat e2))]) ⟨argEx' (argLslP rfl trivial (List.Mem.head _) (Nat.le_refl _) fun a ha b hb2 => ?_), trivial⟩ ⟨_, rfl, .mk ⟨hv.1, hv.2, hs⟩ (by omega) (fun i hi => ?_), w_upd e (by have := he2.2; rwa [show 0 + x.toNat - 0 = x.toNat by omega] at this)⟩
    · show ArgOk _ _ ((cond (Nat.beq a x.toNat) (nthP (cX e2)) (tF cX e.kf a)) b) (nthP (cX (updA e.kf x.toNat e2 a)) b)
      unfold updA
      by_cases e1 : a = x.toNat
      · rw [if_pos e1, e1, show Nat.beq x.toNat x.toNat = true from Nat.beq_refl _]
        exact argCl (clL_nth _ b (cX_cl e2))
      · have eb : Nat.beq a x.toNat = false := by cases hb2 : Nat.beq a x.toNat; rfl; exact absurd (Nat.eq_of_beq_eq_true hb2) e1
        rw [if_neg e1, eb, cond_false]
        exact argCl (tF_cl cX_cl e.kf a b)
    · unfold updA
      by_cases e1 : i = x.toNat
      · rw [if_pos e1]; exact he2.1
      · rw [if_neg e1]; exact (hb.k hi).mono (by omega)
  · intro hc1
    repeat' (first | refine yo ?_ ?_ | refine yw ?_ ?_ | refine yk ?_ ?_ | exact trivial | with_reducible refine wA ?_ ?_ | refine ys ?_ ?_ | refine xs_done ?_ | refine yl ?_ ?_ | refine w8 ?_ | refine w9 ?_ | refine w1 ?_ | refine w2 ?_ | refine w3 ?_ | refine w4 ?_ | refine w5 ?_ | refine w6 ?_ | refine w7 ?_ | refine yo0 ?_ ?_ | refine yw0 ?_ ?_ | exact qq | fail)
    exact kcut (st' := ⟨[(0, .ptr 0 0 0), (3, .ptr 1 0 0), (4, .ptr 2 0 0)], [tapeRow n g at', rX18 e, rZX]⟩) (can_rowsv [0, 1, 2] (k0_sel hk rfl) rfl (.cons rfl (RowEq.cl (tape_cl _ _ _)) (.cons rfl (RowEq.cl (rX18_cl e)) (.cons rfl rqq .nil))) tmq) ⟨at', b1, b2, rfl⟩
  · rintro _ ⟨at', b1, b2, rfl⟩
    exact spoil_rest c hc3 hc hE e hb n g hn Γ hk at' b1 b2
theorem spoilW_t (c : Nat) (hc3 : 3 ≤ c) (hc : c ≤ 100) (e : Ex) (hb : BK c e) : SpX c e := by
  have hE : ∀ t, t = t0 ∨ t = tM ∨ t = tH ∨ t = tR ∨ t = tB → TapC G.P 6 [vT t, vi 2, vi 5] (fun r => ∃ e, r = vX e ∧ BK 3 e ∧ e.w ≤ 100) := fun t ht => (expr_t 1 (by omega) t (by simp only [tys5, List.mem_cons, List.not_mem_nil, or_false]; exact ht) 5).mono fun r ⟨e, h, he⟩ => ⟨e, h, BK.of_valid 32 e (he.vl 32 (by decide)) he.bd, Nat.le_trans (w_valid 2 e (he.vl 2 (by decide))) (by decide)⟩
  induction hb with
  | nil => exact spoil_one c hc3 hc hE .nil .nil (fun i hi => absurd hi (Nat.not_lt_zero _))
  | mk h hn hk ih => exact spoil_one c hc3 hc hE _ (.mk h hn hk) ih
end Go.Proofs.YtdifpajpheemaaaGreatDoor
namespace Go.Proofs.YtdifpajpheemaaaGreatDoor
theorem ok_den1 (x : Int) (h1 : -1000000000000 ≤ x) (h2 : x ≤ 1000000000000) : okR x 1 = true := by
  simp only [okR, decide_eq_true_eq]
  refine ⟨by omega, by omega, h1, h2, by simp [Int.gcd]⟩
theorem tmod_bd (x k : Int) (h : 1 ≤ k) : -k < x.tmod k ∧ x.tmod k < k := by
  obtain ⟨_, _, h1, h2⟩ := tmod_cases x k h
  exact ⟨h1, h2⟩
theorem ok_tmod (x : Int) : okR (x.tmod 1000) 1 = true := by
  have := tmod_bd x 1000 (by omega)
  exact ok_den1 _ (by omega) (by omega)
theorem ratio_t : TapC G.P 61 [] (fun r => ∃ a b : Int, r = vr a b ∧ okR a b = true) := by
  intro n g at_ hn h1 h2
  refine ptr_of (G := G.toPg) (fn := Tryz.f61) Tryz.func61 rfl rfl rfl ?_; intro Γ hk
  repeat' (first | ((with_reducible (show POps _ _ _ _ (_ :: _) _ _)); (first | refine pop_read rfl rfl rfl rfl trivial ?_ | refine pop_guard rfl rfl rfl rfl rfl qgd ?_ | refine pop_new rfl rfl rfl rfl trivial ?_ | refine pop_store rfl rfl rfl Nat.zero_lt_one ?_ | refine pop_read rfl rfl rfl rfl qrd ?_ | refine pop_read2 rfl rfl rfl rfl trivial ?_ | refine pop_store rfl rfl rfl qst ?_ | (refine tn1 hn ?_; rintro at_ b1 b2 x hx1 hx2) | (refine pop_tapl (G := G) rfl rfl rfl rfl rfl rfl rfl rfl rfl rfl rfl (by omega) rfl (fun _ => rfl) rfl (pick_t _ _ rfl (by decide) (by decide)) hn (by assumption) (by assumption) ?_; rintro at_ _ b1 b2 ⟨x, rfl, hx⟩; simp only [unL, List.mem_cons, List.not_mem_nil, or_false] at hx) | refine pop_make rfl rfl rfl rfl trivial ?_ | refine pop_callv rfl rfl rfl rfl rfl (ref1New_c _ _ (by first | exact wb1 _ | omega) (by first | exact wb2 _ | omega) (by first | exact wb1 _ | omega) (by first | exact wb2 _ | omega)) rfl rfl rfl ?_ | fail)) | refine pnil ?_ | refine kround_exit ?_ | refine kround_ret ?_ | refine kround_next ?_ | refine kseq_normal ?_ | refine pseq ?_ | refine pregion ?_ | refine pret ?_ | refine kseq_ret ?_ | refine pskip ?_ | refine pblock ?_ | refine pexit ?_ | refine kseq_exit ?_ | refine kblock_hit rfl ?_ | refine kblock_miss rfl ?_ | refine kblock_ret ?_ | refine kblock_normal ?_ | refine kloop_ret ?_ | refine kloop_exit ?_ | refine kcut_ret ?_ | refine kcut_exit ?_ | refine pcond_t rfl ?_ | refine pcond_f rfl ?_ | (with_reducible (show POps _ _ _ _ _ _ _); simp only [List.append_eq, List.cons_append, List.nil_append]) | (refine pcond rfl ?_ ?_ <;> intro hc))
  all_goals refine ktap rfl b1 b2 rfl ⟨Nat.zero_lt_one, trivial⟩ rfl ⟨_, _, rfl, ?_⟩
  all_goals first
    | exact ok_tmod _
    | (simp at hc; refine (newS_spec ?_ hc).1; first | omega | (rw [w64 (by omega) (by omega)]; omega))
    | trace_state
theorem fraction_t : TapC G.P 38 [] (fun r => ∃ a b : Int, r = vr a b ∧ -9223372036854775808 ≤ a ∧ a ≤ 9223372036854775807) := by
  intro n g at_ hn h1 h2
  refine ptr_of (G := G.toPg) (fn := Tryz.f38) Tryz.func38 rfl rfl rfl ?_; intro Γ hk
  repeat' (first | ((with_reducible (show POps _ _ _ _ (_ :: _) _ _)); (first | refine pop_read rfl rfl rfl rfl trivial ?_ | refine pop_guard rfl rfl rfl rfl rfl qgd ?_ | refine pop_new rfl rfl rfl rfl trivial ?_ | refine pop_store rfl rfl rfl Nat.zero_lt_one ?_ | refine pop_read rfl rfl rfl rfl qrd ?_ | refine pop_read2 rfl rfl rfl rfl trivial ?_ | refine pop_store rfl rfl rfl qst ?_ | fail)) | refine pnil ?_ | refine kround_exit ?_ | refine kround_ret ?_ | refine kround_next ?_ | refine kseq_normal ?_ | refine pseq ?_ | refine pregion ?_ | refine pret ?_ | refine kseq_ret ?_ | refine pskip ?_ | refine pblock ?_ | refine pexit ?_ | refine kseq_exit ?_ | refine kblock_hit rfl ?_ | refine kblock_miss rfl ?_ | refine kblock_ret ?_ | refine kblock_normal ?_ | refine kloop_ret ?_ | refine kloop_exit ?_ | refine kcut_ret ?_ | refine kcut_exit ?_ | refine pcond_t rfl ?_ | refine pcond_f rfl ?_ | (with_reducible (show POps _ _ _ _ _ _ _); simp only [List.append_eq, List.cons_append, List.nil_append]))
  refine pop_tap (G := G) rfl rfl rfl rfl rfl rfl rfl rfl (fun _ => rfl) (ratio_t) hn (by assumption) (by assumption) rfl rfl ?_; rintro at_ _ b1 b2 ⟨a, b, rfl, hab⟩
  obtain ⟨r1, r2, r3, r4⟩ := okR_bd hab
  repeat' (first | ((with_reducible (show POps _ _ _ _ (_ :: _) _ _)); (first | refine pop_read rfl rfl rfl rfl trivial ?_ | refine pop_guard rfl rfl rfl rfl rfl qgd ?_ | refine pop_new rfl rfl rfl rfl trivial ?_ | refine pop_store rfl rfl rfl Nat.zero_lt_one ?_ | refine pop_read rfl rfl rfl rfl qrd ?_ | refine pop_read2 rfl rfl rfl rfl trivial ?_ | refine pop_store rfl rfl rfl qst ?_ | (refine tn1 hn ?_; rintro at_ b1 b2 x hx1 hx2) | (refine pop_tapl (G := G) rfl rfl rfl rfl rfl rfl rfl rfl rfl rfl rfl (by omega) rfl (fun _ => rfl) rfl (pick_t _ _ rfl (by decide) (by decide)) hn (by assumption) (by assumption) ?_; rintro at_ _ b1 b2 ⟨x, rfl, hx⟩; simp only [unL, List.mem_cons, List.not_mem_nil, or_false] at hx) | refine pop_make rfl rfl rfl rfl trivial ?_ | fail)) | refine pnil ?_ | refine kround_exit ?_ | refine kround_ret ?_ | refine kround_next ?_ | refine kseq_normal ?_ | refine pseq ?_ | refine pregion ?_ | refine pret ?_ | refine kseq_ret ?_ | refine pskip ?_ | refine pblock ?_ | refine pexit ?_ | refine kseq_exit ?_ | refine kblock_hit rfl ?_ | refine kblock_miss rfl ?_ | refine kblock_ret ?_ | refine kblock_normal ?_ | refine kloop_ret ?_ | refine kloop_exit ?_ | refine kcut_ret ?_ | refine kcut_exit ?_ | refine pcond_t rfl ?_ | refine pcond_f rfl ?_ | (with_reducible (show POps _ _ _ _ _ _ _); simp only [List.append_eq, List.cons_append, List.nil_append]) | (refine pcond rfl ?_ ?_ <;> intro hc))
  all_goals refine ktap rfl b1 b2 rfl ⟨Nat.zero_lt_one, trivial⟩ rfl ⟨_, _, rfl, ?_, ?_⟩
  all_goals first | exact wb1 _ | exact wb2 _ | omega
theorem small_t : TapC G.P 37 [] (fun r => ∃ a b : Int, r = vr a b ∧ -1000 ≤ a ∧ a ≤ 1000 ∧ (b = 1 ∨ b = 2)) := by
  intro n g at_ hn h1 h2
  refine ptr_of (G := G.toPg) (fn := Tryz.f37) Tryz.func37 rfl rfl rfl ?_; intro Γ hk
  repeat' (first | refine yo ?_ ?_ | refine yw ?_ ?_ | refine yk ?_ ?_ | exact trivial | with_reducible refine wA ?_ ?_ | refine ys ?_ ?_ | refine xs_done ?_ | refine yl ?_ ?_ | (refine tn1 hn ?_; rintro at_ b1 b2 x hx1 hx2) | refine w8 ?_ | refine w9 ?_ | refine w1 ?_ | refine w2 ?_ | refine w3 ?_ | refine w4 ?_ | refine w5 ?_ | refine w6 ?_ | refine w7 ?_ | refine yo0 ?_ ?_ | refine yw0 ?_ ?_ | exact qq | fail)
  · exact (show (2 : Int) ≠ 0 from by decide)
  rw [w64 (n := x - 20) (by omega) (by omega)]
  refine pcond rfl ?_ ?_ <;> intro hc
  · repeat' (first | refine yo ?_ ?_ | refine yw ?_ ?_ | refine yk ?_ ?_ | exact trivial | with_reducible refine wA ?_ ?_ | refine ys ?_ ?_ | refine xs_done ?_ | refine yl ?_ ?_ | refine w8 ?_ | refine w9 ?_ | refine w1 ?_ | refine w2 ?_ | refine w3 ?_ | refine w4 ?_ | refine w5 ?_ | refine w6 ?_ | refine w7 ?_ | refine yo0 ?_ ?_ | refine yw0 ?_ ?_ | exact qq | fail)
    refine xdone ?_
    exact ktap rfl b1 b2 rfl ⟨Nat.zero_lt_one, trivial⟩ rfl ⟨_, _, rfl, by omega, by omega, .inr rfl⟩
  · repeat' (first | refine yo ?_ ?_ | refine yw ?_ ?_ | refine yk ?_ ?_ | exact trivial | with_reducible refine wA ?_ ?_ | refine ys ?_ ?_ | refine xs_done ?_ | refine yl ?_ ?_ | refine w8 ?_ | refine w9 ?_ | refine w1 ?_ | refine w2 ?_ | refine w3 ?_ | refine w4 ?_ | refine w5 ?_ | refine w6 ?_ | refine w7 ?_ | refine yo0 ?_ ?_ | refine yw0 ?_ ?_ | exact qq | fail)
    refine xdone ?_
    exact ktap rfl b1 b2 rfl ⟨Nat.zero_lt_one, trivial⟩ rfl ⟨_, _, rfl, by omega, by omega, .inl rfl⟩
structure InOk (N : List In) : Prop where
  len : N.length ≤ 10
  pos : 0 < N.length
  bd : ∀ x, x ∈ N → -9223372036854775808 ≤ x.n ∧ x.n ≤ 9223372036854775807
theorem argIn {mem : List Row} {L : List Nat} {l n n' : Nat} {f : Nat → Nat → PV} {N : List In} (hr : rowAt mem l = some ⟨.own, false, n', 3, f⟩) (hN : N.length = n) (hn : n ≤ n') (hL : l ∈ L) (hf : ∀ a, a < n → ∀ b, b < 3 → f a b = nthP (cIn (lF dIn N a)) b) : ArgOk mem L (.lsl l 0 n) (vIns N) := by
  subst hN
  exact argLsl (r := ⟨.own, false, n', 3, f⟩) hr trivial hL (by simpa using hn) fun a ha b hb => ⟨by rw [Nat.zero_add]; exact hf a ha b hb, tF_cl cIn_cl _ a b⟩
theorem c3 {b : Nat} (h : b < 3) : b = 0 ∨ b = 1 ∨ b = 2 := by omega
theorem next3i_t : TapC G.P 15 [vi 3] (fun r => ∃ x : Int, r = vi x ∧ (x = 0 ∨ x = 1 ∨ x = 2)) := (next_t 3 (by omega)).mono fun r ⟨x, h, h1, h2⟩ => ⟨x, h, by omega⟩
theorem inOk_of {N : List In} (h1 : N.length ≤ 10) (h2 : 0 < N.length) (h3 : (N.all fun x => decide (-9223372036854775808 ≤ x.n ∧ x.n ≤ 9223372036854775807)) = true) : InOk N := ⟨h1, h2, fun x hx => of_decide_eq_true (List.all_eq_true.1 h3 x hx)⟩
abbrev nH (a b : Int) : In := ⟨n_h, a, b⟩
abbrev nG (a b : Int) : In := ⟨n_g, a, b⟩
abbrev nF (a b : Int) : In := ⟨n_f, a, b⟩
abbrev nR : In := ⟨n_r1, 9, 1⟩
theorem bdT {x : Int} (h1 : -9223372036854775808 ≤ x) (h2 : x ≤ 9223372036854775807) : decide (-9223372036854775808 ≤ x ∧ x ≤ 9223372036854775807) = true := decide_eq_true ⟨h1, h2⟩
abbrev insPost (n : Nat) (g : Nat → Int) : PV → List Row → Prop := fun r rows => ∃ (at' : Int) (k : Nat) (N : List In), 0 ≤ at' ∧ at' ≤ n ∧ N.length = k + 1 ∧ InOk N ∧ r = .lsl 1 0 (k + 1) ∧ rows = [tapeRow n g at', oRow cIn 3 (k + 1) (lF dIn N)]
set_option maxHeartbeats 4000000 in
theorem inputs_r (n : Nat) (g : Nat → Int) (at_ : Int) (hn : n ≤ 9223372036854775807) (h1 : 0 ≤ at_) (h2 : at_ ≤ n) : RowsC G.P 14 [tapeRow n g at_] [.ptr 0 0 0] (insPost n g) := by
  refine rows_of (G := G.toPg) (fn := Tryz.f14) Tryz.func14 rfl rfl rfl ?_; intro Γ hk
  replace hk : Γ.k0 = 1 := hk
  repeat' (first | refine yo ?_ ?_ | refine yw ?_ ?_ | refine yk ?_ ?_ | exact trivial | with_reducible refine wA ?_ ?_ | refine ys ?_ ?_ | refine xs_done ?_ | refine yl ?_ ?_ | (refine t1 small_t hn ?_; rintro at_ _ b1 b2 ⟨a, b, rfl, ha1, ha2, hb⟩) | (refine t2 small_t hn ?_; rintro at_ _ b1 b2 ⟨a, b, rfl, ha1, ha2, hb⟩) | (refine t3 small_t hn ?_; rintro at_ _ b1 b2 ⟨a, b, rfl, ha1, ha2, hb⟩) | (refine tn1 hn ?_; rintro at_ b1 b2 x hx1 hx2) | refine w8 ?_ | refine w9 ?_ | refine w1 ?_ | refine w2 ?_ | refine w3 ?_ | refine w4 ?_ | refine w5 ?_ | refine w6 ?_ | refine w7 ?_ | refine yo0 ?_ ?_ | refine yw0 ?_ ?_ | exact qq | fail)
  rename_i c d p1 p2 p3 _ _ _ _ _ _ z hz1 hz2
  have B : ∀ (c' d' a' b' z' w' : Int), -9223372036854775808 ≤ c' → c' ≤ 9223372036854775807 → -9223372036854775808 ≤ a' → a' ≤ 9223372036854775807 → -9223372036854775808 ≤ z' → z' ≤ 9223372036854775807 → InOk [nH c' d', nG a' b', nF z' w'] ∧ InOk [nH c' d', nG a' b', nR] ∧ InOk [nH c' d', nR] ∧ InOk [nR] ∧ InOk [nH c' d', nG a' b', nF z' w', nH 77 1] := fun c' d' a' b' z' w' e1 e2 e3 e4 e5 e6 => by
    have q1 := bdT e1 e2
    have q2 := bdT e3 e4
    have q3 := bdT e5 e6
    refine ⟨inOk_of (Nat.le_of_ble_eq_true rfl) (Nat.succ_pos _) ?_, inOk_of (Nat.le_of_ble_eq_true rfl) (Nat.succ_pos _) ?_, inOk_of (Nat.le_of_ble_eq_true rfl) (Nat.succ_pos _) ?_, inOk_of (Nat.le_of_ble_eq_true rfl) (Nat.succ_pos _) ?_, inOk_of (Nat.le_of_ble_eq_true rfl) (Nat.succ_pos _) ?_⟩ <;> simp only [List.all_cons, List.all_nil, Bool.and_eq_true, q1, q2, q3] <;> decide
  refine pcond rfl ?_ ?_ <;> intro hc
  · repeat' (first | refine yo ?_ ?_ | refine yw ?_ ?_ | refine yk ?_ ?_ | exact trivial | with_reducible refine wA ?_ ?_ | refine ys ?_ ?_ | refine xs_done ?_ | refine yl ?_ ?_ | (refine t1 next3i_t hn ?_; rintro at_ _ b1 b2 ⟨y, rfl, (rfl | rfl | rfl)⟩) | (refine t2 next3i_t hn ?_; rintro at_ _ b1 b2 ⟨y, rfl, (rfl | rfl | rfl)⟩) | (refine t3 next3i_t hn ?_; rintro at_ _ b1 b2 ⟨y, rfl, (rfl | rfl | rfl)⟩) | exact ⟨Nat.le_of_ble_eq_true rfl, (by rw [hk]; exact Nat.le_of_ble_eq_true rfl), Nat.le_of_ble_eq_true rfl, Nat.le_of_ble_eq_true rfl, Nat.le_of_ble_eq_true rfl⟩ | exact ⟨trivial, trivial, by decide, by decide, by decide⟩ | refine w8 ?_ | refine w9 ?_ | refine w1 ?_ | refine w2 ?_ | refine w3 ?_ | refine w4 ?_ | refine w5 ?_ | refine w6 ?_ | refine w7 ?_ | refine yo0 ?_ ?_ | refine yw0 ?_ ?_ | exact qq | fail)
    · refine xdone ?_
      exact kretr (st' := ⟨[(2, .lsl 1 0 (0 + 1))], [tapeRow n g _, oRow cIn 3 (0 + 1) (lF dIn [nR])]⟩) (can_rowsv [0, 3] (k0_sel hk rfl) rfl (.cons rfl (RowEq.cl (tape_cl _ _ _)) (.cons rfl (o_eq cIn_cl (Nat.le_refl _) (fun x hx y hy => by
        obtain rfl : x = 0 := by omega
        rcases c3 hy with rfl | rfl | rfl <;> rfl)) .nil)) tmq) rfl ⟨trivial, trivial⟩ rfl ⟨_, 0, [nR], b1, b2, rfl, (B c d a b z 1 (by omega) (by omega) (by omega) (by omega) (by omega) (by omega)).2.2.2.1, rfl, rfl⟩
    · refine xdone ?_
      exact kretr (st' := ⟨[(2, .lsl 1 0 (1 + 1))], [tapeRow n g _, oRow cIn 3 (1 + 1) (lF dIn [nH c d, nR])]⟩) (can_rowsv [0, 3] (k0_sel hk rfl) rfl (.cons rfl (RowEq.cl (tape_cl _ _ _)) (.cons rfl (o_eq cIn_cl (Nat.le_refl _) (fun x hx y hy => by
        rcases (by omega : x = 0 ∨ x = 1) with rfl | rfl <;> rcases c3 hy with rfl | rfl | rfl <;> rfl)) .nil)) tmq) rfl ⟨trivial, trivial⟩ rfl ⟨_, 1, [nH c d, nR], b1, b2, rfl, (B c d a b z 1 (by omega) (by omega) (by omega) (by omega) (by omega) (by omega)).2.2.1, rfl, rfl⟩
    · refine xdone ?_
      exact kretr (st' := ⟨[(2, .lsl 1 0 (2 + 1))], [tapeRow n g _, oRow cIn 3 (2 + 1) (lF dIn [nH c d, nG a b, nR])]⟩) (can_rowsv [0, 3] (k0_sel hk rfl) rfl (.cons rfl (RowEq.cl (tape_cl _ _ _)) (.cons rfl (o_eq cIn_cl (Nat.le_refl _) (fun x hx y hy => by
        rcases c3 (show x < 3 from hx) with rfl | rfl | rfl <;> rcases c3 hy with rfl | rfl | rfl <;> rfl)) .nil)) tmq) rfl ⟨trivial, trivial⟩ rfl ⟨_, 2, [nH c d, nG a b, nR], b1, b2, rfl, (B c d a b z 1 (by omega) (by omega) (by omega) (by omega) (by omega) (by omega)).2.1, rfl, rfl⟩
  · repeat' (first | refine yo ?_ ?_ | refine yw ?_ ?_ | refine yk ?_ ?_ | exact trivial | with_reducible refine wA ?_ ?_ | refine ys ?_ ?_ | refine xs_done ?_ | refine yl ?_ ?_ | refine w8 ?_ | refine w9 ?_ | refine w1 ?_ | refine w2 ?_ | refine w3 ?_ | refine w4 ?_ | refine w5 ?_ | refine w6 ?_ | refine w7 ?_ | refine yo0 ?_ ?_ | refine yw0 ?_ ?_ | exact qq | fail)
    refine pcond rfl ?_ ?_ <;> intro hc8
    · repeat' (first | refine yo ?_ ?_ | refine yw ?_ ?_ | refine yk ?_ ?_ | exact trivial | with_reducible refine wA ?_ ?_ | refine ys ?_ ?_ | refine xs_done ?_ | refine yl ?_ ?_ | (refine t1 next3i_t hn ?_; rintro at_ _ b1 b2 ⟨y, rfl, (rfl | rfl | rfl)⟩) | (refine t2 next3i_t hn ?_; rintro at_ _ b1 b2 ⟨y, rfl, (rfl | rfl | rfl)⟩) | (refine t3 next3i_t hn ?_; rintro at_ _ b1 b2 ⟨y, rfl, (rfl | rfl | rfl)⟩) | (refine t1 fraction_t hn ?_; rintro at_ _ b1 b2 ⟨u, v, rfl, hu, hv⟩) | (refine t2 fraction_t hn ?_; rintro at_ _ b1 b2 ⟨u, v, rfl, hu, hv⟩) | (refine t3 fraction_t hn ?_; rintro at_ _ b1 b2 ⟨u, v, rfl, hu, hv⟩) | refine w8 ?_ | refine w9 ?_ | refine w1 ?_ | refine w2 ?_ | refine w3 ?_ | refine w4 ?_ | refine w5 ?_ | refine w6 ?_ | refine w7 ?_ | refine yo0 ?_ ?_ | refine yw0 ?_ ?_ | exact qq | fail)
      · refine xdone ?_
        exact kretr (st' := ⟨[(2, .lsl 1 0 (2 + 1))], [tapeRow n g _, oRow cIn 3 (2 + 1) (lF dIn [nH u v, nG a b, nF z 1])]⟩) (can_rowsv [0, 1] (k0_sel hk rfl) rfl (.cons rfl (RowEq.cl (tape_cl _ _ _)) (.cons rfl (o_eq cIn_cl (Nat.le_refl _) (fun x hx y hy => by
          rcases c3 (show x < 3 from hx) with rfl | rfl | rfl <;> rcases c3 hy with rfl | rfl | rfl <;> rfl)) .nil)) tmq) rfl ⟨trivial, trivial⟩ rfl ⟨_, 2, [nH u v, nG a b, nF z 1], b1, b2, rfl, (B u v a b z 1 (by omega) (by omega) (by omega) (by omega) (by omega) (by omega)).1, rfl, rfl⟩
      · refine xdone ?_
        exact kretr (st' := ⟨[(2, .lsl 1 0 (2 + 1))], [tapeRow n g _, oRow cIn 3 (2 + 1) (lF dIn [nH c d, nG u v, nF z 1])]⟩) (can_rowsv [0, 1] (k0_sel hk rfl) rfl (.cons rfl (RowEq.cl (tape_cl _ _ _)) (.cons rfl (o_eq cIn_cl (Nat.le_refl _) (fun x hx y hy => by
          rcases c3 (show x < 3 from hx) with rfl | rfl | rfl <;> rcases c3 hy with rfl | rfl | rfl <;> rfl)) .nil)) tmq) rfl ⟨trivial, trivial⟩ rfl ⟨_, 2, [nH c d, nG u v, nF z 1], b1, b2, rfl, (B c d u v z 1 (by omega) (by omega) (by omega) (by omega) (by omega) (by omega)).1, rfl, rfl⟩
      · refine xdone ?_
        exact kretr (st' := ⟨[(2, .lsl 1 0 (2 + 1))], [tapeRow n g _, oRow cIn 3 (2 + 1) (lF dIn [nH c d, nG a b, nF u v])]⟩) (can_rowsv [0, 1] (k0_sel hk rfl) rfl (.cons rfl (RowEq.cl (tape_cl _ _ _)) (.cons rfl (o_eq cIn_cl (Nat.le_refl _) (fun x hx y hy => by
          rcases c3 (show x < 3 from hx) with rfl | rfl | rfl <;> rcases c3 hy with rfl | rfl | rfl <;> rfl)) .nil)) tmq) rfl ⟨trivial, trivial⟩ rfl ⟨_, 2, [nH c d, nG a b, nF u v], b1, b2, rfl, (B c d a b u v (by omega) (by omega) (by omega) (by omega) (by omega) (by omega)).1, rfl, rfl⟩
    · repeat' (first | refine yo ?_ ?_ | refine yw ?_ ?_ | refine yk ?_ ?_ | exact trivial | with_reducible refine wA ?_ ?_ | refine ys ?_ ?_ | refine xs_done ?_ | refine yl ?_ ?_ | refine w8 ?_ | refine w9 ?_ | refine w1 ?_ | refine w2 ?_ | refine w3 ?_ | refine w4 ?_ | refine w5 ?_ | refine w6 ?_ | refine w7 ?_ | refine yo0 ?_ ?_ | refine yw0 ?_ ?_ | exact qq | fail)
      refine pcond rfl ?_ ?_ <;> intro hc9
      · repeat' (first | refine yo ?_ ?_ | refine yw ?_ ?_ | refine yk ?_ ?_ | exact trivial | with_reducible refine wA ?_ ?_ | refine ys ?_ ?_ | refine xs_done ?_ | refine yl ?_ ?_ | exact ⟨Nat.le_of_ble_eq_true rfl, (by rw [hk]; exact Nat.le_of_ble_eq_true rfl), Nat.le_of_ble_eq_true rfl, Nat.le_of_ble_eq_true rfl, Nat.le_of_ble_eq_true rfl⟩ | refine w8 ?_ | refine w9 ?_ | refine w1 ?_ | refine w2 ?_ | refine w3 ?_ | refine w4 ?_ | refine w5 ?_ | refine w6 ?_ | refine w7 ?_ | refine yo0 ?_ ?_ | refine yw0 ?_ ?_ | exact qq | fail)
        refine xdone ?_
        exact kretr (st' := ⟨[(2, .lsl 1 0 (3 + 1))], [tapeRow n g _, oRow cIn 3 (3 + 1) (lF dIn [nH c d, nG a b, nF z 1, nH 77 1])]⟩) (can_rowsv [0, 3] (k0_sel hk rfl) rfl (.cons rfl (RowEq.cl (tape_cl _ _ _)) (.cons rfl (o_eq cIn_cl (Nat.le_refl _) (fun x hx y hy => by
          rcases (by omega : x = 0 ∨ x = 1 ∨ x = 2 ∨ x = 3) with rfl | rfl | rfl | rfl <;> rcases c3 hy with rfl | rfl | rfl <;> rfl)) .nil)) tmq) rfl ⟨trivial, trivial⟩ rfl ⟨_, 3, [nH c d, nG a b, nF z 1, nH 77 1], b1, b2, rfl, (B c d a b z 1 (by omega) (by omega) (by omega) (by omega) (by omega) (by omega)).2.2.2.2, rfl, rfl⟩
      · repeat' (first | refine yo ?_ ?_ | refine yw ?_ ?_ | refine yk ?_ ?_ | exact trivial | with_reducible refine wA ?_ ?_ | refine ys ?_ ?_ | refine xs_done ?_ | refine yl ?_ ?_ | refine w8 ?_ | refine w9 ?_ | refine w1 ?_ | refine w2 ?_ | refine w3 ?_ | refine w4 ?_ | refine w5 ?_ | refine w6 ?_ | refine w7 ?_ | refine yo0 ?_ ?_ | refine yw0 ?_ ?_ | exact qq | fail)
        refine xdone ?_
        exact kretr (st' := ⟨[(2, .lsl 1 0 (2 + 1))], [tapeRow n g _, oRow cIn 3 (2 + 1) (lF dIn [nH c d, nG a b, nF z 1])]⟩) (can_rowsv [0, 1] (k0_sel hk rfl) rfl (.cons rfl (RowEq.cl (tape_cl _ _ _)) (.cons rfl (o_eq cIn_cl (Nat.le_refl _) (fun x hx y hy => by
          rcases c3 (show x < 3 from hx) with rfl | rfl | rfl <;> rcases c3 hy with rfl | rfl | rfl <;> rfl)) .nil)) tmq) rfl ⟨trivial, trivial⟩ rfl ⟨_, 2, [nH c d, nG a b, nF z 1], b1, b2, rfl, (B c d a b z 1 (by omega) (by omega) (by omega) (by omega) (by omega) (by omega)).1, rfl, rfl⟩
end Go.Proofs.YtdifpajpheemaaaGreatDoor
