/- Functions of values whose results hold slices that they made themselves: the rows handed in may be changed again. -/
import Derived.Test.YtcghpepighboaaaDoorPvSlice
import Derived.Test.YtcghpepighboaaaDoorPvN
import Derived.Test.YtcghpepighboaaaDoorPvE
set_option linter.unusedSimpArgs false
set_option linter.unusedVariables false
set_option maxRecDepth 100000
namespace Go.Proofs.YtcghpepighboaaaDoor
def FSet (ρ : Nat → Loc) (mem : List Row) (L : List Nat) (b : Nat) : Prop := ∃ l r, l ∈ L ∧ mem[l]? = some r ∧ r.s.isOwn ∧ b = (ρ l).b
def ArgF (mem : List Row) (L : List Nat) (p q : PV) : Prop :=
  ∀ (ρ : Nat → Loc) (I : Nat → Prop) (w : World) (v : Value), MRel ρ I w mem → VRel mem.length ρ I w p v → VRel 0 ρ (FSet ρ mem L) w q v
def ArgsF (mem : List Row) (L : List Nat) : List PV → List PV → Prop
  | [], [] => True
  | p :: ps, q :: qs => ArgF mem L p q ∧ ArgsF mem L ps qs
  | _, _ => False
theorem argFSc {mem : List Row} {L : List Nat} {p : PV} (h : Sc p) : ArgF mem L p p := fun ρ I w v hm hv => Sc.rel p _ _ v h hv
theorem argFVal {mem : List Row} {L : List Nat} {x : Value} : ArgF mem L (.val x) (.val x) := argFSc trivial
theorem argFNil {mem : List Row} {L : List Nat} {sz : Nat} {f : Nat → Nat → PV} : ArgF mem L (.val (.slice none 0 0)) (.vsl 0 sz f) := fun ρ I w v hm hv => ⟨none, 0, hv, Nat.le_refl _, .inl rfl⟩
theorem argFLsl {mem : List Row} {L : List Nat} {l i n : Nat} {r : Row} {f : Nat → Nat → PV} (hr : rowAt mem l = some r) (hs : r.s.isOwn) (hL : l ∈ L) (hn : i + n ≤ r.n) (hc : ∀ a, a < n → ∀ b, b < r.sz → r.f (i + a) b = f a b ∧ Sc (f a b)) : ArgF mem L (.lsl l i n) (.vsl n r.sz f) := by
  rintro ρ I w v hm ⟨hl, h⟩
  rw [rowAt_get] at hr
  rcases h with ⟨rfl, ad, rfl⟩ | ⟨cap, h1, rfl, h2⟩
  · exact ⟨ad, 0, rfl, Nat.le_refl _, .inl rfl⟩
  · refine ⟨_, cap, rfl, h1, .inr ⟨(ρ l).b, (ρ l).o + i * (ρ l).sz, rfl, ⟨l, r, hL, hr, hs, rfl⟩, fun a ha b hb => ?_⟩⟩
    obtain ⟨hsz, cs, T, hc1, hc2⟩ := hm.row l r hr (RS.live_of_own hs)
    obtain ⟨u, g1, g2, g3⟩ := hc2 (i + a) (by omega) b hb
    obtain ⟨e1, e2⟩ := hc a ha b hb
    rw [e1] at g3
    refine ⟨u, ?_, g2, Sc.rel _ _ _ _ e2 g3⟩
    have : (ρ l).o + i * (ρ l).sz + a * r.sz + b = (ρ l).o + (i + a) * r.sz + b := by rw [hsz, Nat.add_mul]; omega
    simp only [World.cell?, hc1, this]
    exact g1
theorem argF_o {α : Type} {c : α → List PV} {mem : List Row} {L : List Nat} {l n sz : Nat} {g : Nat → α} (hr : rowAt mem l = some ⟨.own, false, n, sz, tF c g⟩) (hL : l ∈ L) (hc : ∀ a b, Sc (nthP (c (g a)) b)) : ArgF mem L (.lsl l 0 n) (.vsl n sz (tF c g)) :=
  argFLsl (r := ⟨.own, false, n, sz, tF c g⟩) hr trivial hL (by simp) fun a ha b hb => ⟨by show tF c g (0 + a) b = _; rw [Nat.zero_add], hc a b⟩
theorem argsF_sound {st : PSt} {ρ : Nat → Loc} {I : Nat → Prop} {w : World} (hm : MRel ρ I w st.mem) {L : List Nat} : ∀ (ps qs : List PV) (vs : List Value), ArgsF st.mem L ps qs → (∀ i, i < ps.length → VRel st.mem.length ρ I w (nthP ps i) (vs.getD i undef)) → vs.length = ps.length → ARel ρ (FSet ρ st.mem L) w qs vs
  | [], [], vs, _, _, hl => by
    have : vs = [] := by simpa using hl
    subst this; trivial
  | p :: ps, q :: qs, [], _, _, hl => by simp at hl
  | p :: ps, q :: qs, v :: vs, h, hv, hl => by
    refine ⟨h.1 ρ I w v hm (by simpa [nthP] using hv 0 (by simp)), argsF_sound hm ps qs vs h.2 (fun i hi => by simpa [nthP] using hv (i + 1) (by simpa using hi)) (by simpa using hl)⟩
  | [], _ :: _, _, h, _, _ => h.elim
  | _ :: _, [], _, h, _, _ => h.elim
def PureF (P : Program) (f : FuncId) (args : List PV) (post : PV → Prop) : Prop :=
  CallOk P f ∧ ∀ (ρ : Nat → Loc) (A : Nat → Prop) (w : World) (vs : List Value), (∀ b, A b → b < w.heap.size) → GOk A w → ARel ρ A w args vs →
    Calls P f vs.toArray w fun e w' => ∃ v r, e = .returned v ∧ post r ∧ Ext w w' ∧ VRel 0 ρ (fun b => w.heap.size ≤ b ∧ b < w'.heap.size) w' r v
theorem PureF.pure {P : Program} {f : FuncId} {args : List PV} {post : PV → Prop} (h : PureF P f args post) : PureC P f args post :=
  ⟨h.1, fun ρ A w vs hA hG ha => (h.2 ρ A w vs hA hG ha).mono fun e w' ⟨v, r, h1, h2, h3, h4⟩ => ⟨v, r, h1, h2, h3, h4.up (Nat.le_refl _) (fun _ _ => rfl) (fun b hb => .inr hb) (Tr.refl _ _)⟩⟩
theorem PureF.mono {P : Program} {f : FuncId} {args : List PV} {post post' : PV → Prop} (h : PureF P f args post) (hp : ∀ r, post r → post' r) : PureF P f args post' :=
  ⟨h.1, fun ρ A w vs hA hG ha => (h.2 ρ A w vs hA hG ha).mono fun e w' ⟨v, r, h1, h2, h3⟩ => ⟨v, r, h1, hp r h2, h3⟩⟩
structure KretF (tab : List TI) (res : List ResultVar) (post : PV → Prop) (e : Exit) (st : PSt) : Prop where
  go : (e = .normal ∨ e = .ret) ∧ ∃ ps pre L qs, presl tab st res = some (ps, pre) ∧ pre ∧ ArgsF st.mem L ps qs ∧ post (pack qs)
theorem kretF {tab : List TI} {res : List ResultVar} {post : PV → Prop} {st : PSt} {ps : List PV} {pre : Prop} {qs : List PV} (L : List Nat) (h1 : presl tab st res = some (ps, pre)) (h2 : pre) (h3 : ArgsF st.mem L ps qs) (h4 : post (pack qs)) : KretF tab res post .ret st := ⟨.inr rfl, ps, pre, L, qs, h1, h2, h3, h4⟩
theorem pureF_of {G : Pg} {f : FuncId} {fn : Func} {body : Code} {args : List PV} {post : PV → Prop} (hf : G.P.funcs[f]? = some fn) (hb : fn.body = some body) (hn : (fn.name == "runtime.NumGoroutine") = false) (hN : Nat.ble args.length fn.ntmps = true)
    (h : ∀ Γ : Fr, Γ.k0 = 0 → PWp G fn.ntmps Γ body ⟨argTm 0 args, []⟩ (KretF G.tab fn.results.toList post)) : PureF G.P f args post := by
  refine ⟨callOk_of hf hb hn, fun ρ A w vs hA hG ha => ?_⟩
  obtain ⟨hlen, hvs⟩ := arel_nth args vs ha
  have hN' : args.length ≤ fn.ntmps := Nat.le_of_ble_eq_true hN
  let Γ : Fr := { w0 := w, A := A, E := fun _ => False, k0 := 0, ρ0 := ρ }
  refine calls_of_wp hf hb ?_
  have hrel : Rel fn.ntmps Γ ⟨argTm 0 args, []⟩ ρ A { tmps := vs.toArray ++ Array.replicate (fn.ntmps - vs.toArray.size) undef, defers := [] } w := by
    refine ⟨⟨⟨fun l r hl => by simp at hl, fun l l' r r' _ hl => by simp at hl, fun l r hl => by simp at hl, fun l r hl => by simp at hl, hA, fun l r hl => by simp at hl, fun l l' r r' _ hl => by simp at hl⟩, rfl, rfl, rfl, Nat.le_refl _, fun _ _ _ => rfl, fun b cs T fz hb => ⟨cs, hb, rfl⟩, fun b hb _ => hb, fun b hb => hb, fun l r hl => by simp at hl, fun l r hl => by simp at hl, Nat.le_refl _, fun l hl => by simp [Γ] at hl, fun l r hl => by simp at hl, hG⟩, rfl, by simp; omega, fun t => ?_⟩
    simp only [PSt.get, look_argTm, Nat.zero_le, if_true, Nat.sub_zero, List.length_nil]
    by_cases ht : t < args.length
    · have e : (vs.toArray ++ Array.replicate (fn.ntmps - vs.toArray.size) undef).getD t undef = vs.getD t undef := by
        simp [Array.getD_eq_getD_getElem?, Array.getElem?_append, show t < vs.length by omega]
      rw [e]; exact (hvs t ht).of0
    · rw [nthP_out _ _ (by omega)]; trivial
  refine wp_mono ((h Γ rfl).go ρ A _ w hrel) ?_
  rintro e a' w' ⟨_, st', ρ', I', ⟨⟨he, ps, pre, L, qs, hps, hpre, hargs, hpost⟩⟩, hr⟩
  obtain ⟨us, hus, hul, hur⟩ := presl_sound G.ok hr _ ps pre hps hpre
  have hq := argsF_sound hr.fr.m ps qs us hargs hur hul
  have hsub : ∀ b, FSet ρ' st'.mem L b → (w.heap.size ≤ b ∧ b < w'.heap.size) := by
    rintro b ⟨l, r, _, hl, hs, rfl⟩
    refine ⟨hr.fr.fresh l r hl hs (Nat.zero_le _), ?_⟩
    obtain ⟨h1, cs, T, h2, h3⟩ := hr.fr.m.row l r hl (RS.live_of_own hs)
    by_cases hb : (ρ' l).b < w'.heap.size
    · exact hb
    · rw [Array.getElem?_eq_none (by omega)] at h2; cases h2
  have hx : Ext w w' := ⟨hr.fr.os, hr.fr.tape, hr.fr.output, hr.fr.size, fun b hb => hr.fr.block b hb (fun h => h)⟩
  have hfin : ∃ v, (results fn a'.tmps).run G.P w' = .ok v w' ∧ VRel 0 ρ (fun b => w.heap.size ≤ b ∧ b < w'.heap.size) w' (pack qs) v := by
    obtain ⟨ql, qv⟩ := arel_nth qs us hq
    have hrun : (results fn a'.tmps).run G.P w' = .ok (if h : us.toArray.size = 1 then us.toArray[0] else .tuple us.toArray) w' := by
      rw [results_eq]
      simp only [Sem.run_bind, Array.mapM_eq_mapM_toList, Sem.run_map]
      rw [hus]
      simp
    refine ⟨_, hrun, ?_⟩
    have up : ∀ {p : PV} {v : Value}, VRel 0 ρ' (FSet ρ' st'.mem L) w' p v → VRel 0 ρ (fun b => w.heap.size ≤ b ∧ b < w'.heap.size) w' p v := fun hv =>
      hv.up (Nat.le_refl _) (fun l hl => by omega) hsub (Tr.refl _ _)
    by_cases h1 : us.toArray.size = 1
    · rw [dif_pos h1]
      have h1' : us.length = 1 := by simpa using h1
      obtain ⟨u, rfl⟩ : ∃ u, us = [u] := List.length_eq_one_iff.1 h1'
      obtain ⟨q, rfl⟩ : ∃ q, qs = [q] := List.length_eq_one_iff.1 (by rw [← ql]; exact h1')
      simpa [pack, nthP] using up (qv 0 (by simp))
    · rw [dif_neg h1]
      have hp : pack qs = .tup qs.length (nthP qs) := by
        match qs, ql with
        | [], _ => rfl
        | [q], ql => exact absurd (by simpa using ql) h1
        | _ :: _ :: _, _ => rfl
      rw [hp]
      exact ⟨us.toArray, rfl, by simpa using ql, fun i hi => by simpa using up (qv i hi)⟩
  obtain ⟨v, hv1, hv2⟩ := hfin
  rcases he with rfl | rfl
  · exact ⟨hr.defers, v, hv1, v, pack qs, rfl, hpost, hx, hv2⟩
  · exact ⟨hr.defers, v, hv1, v, pack qs, rfl, hpost, hx, hv2⟩
section
variable {N : Nat} {Γ : Fr} {st : PSt} {K : Exit → PSt → Prop} {ops : Array Oper} {o : Oper} {rest : List Oper} {d : Nat}
theorem pop_callF {G : Pg} {f : FuncId} {x : Operand} {args : Array Operand} {tys : Array TypeId} {c : Nat → PV} {qs : List PV} {post : PV → Prop} (L : List Nat) (hg : o.guard = none) (hd : o.dst = some d) (hN : Nat.blt d N = true) (ho : o.op = .call ⟨.value x, args, tys⟩) (hx : st.ev x = .clo f 0 c)
    (hc : PureF G.P f qs post) (ha : ArgsOk st.mem L (args.toList.map st.ev) qs) (h : ∀ r, post r → POps G N Γ ops rest (st.put d r) K) : POps G N Γ ops (o :: rest) st K := .mk fun ρ I a w hrel => by
  have hw : Region.wanted o (yielded ops a.tmps) = true := by simp [Region.wanted, hg]
  simp only [wpList, hw, if_true]
  refine .inl ?_
  have hxe := ev_rel hrel x
  rw [hx] at hxe
  obtain ⟨cap, e1, e2, _⟩ := hxe
  have e3 : cap = #[] := by simpa using e2
  subst e3
  simp only [Oper.wp, call_run hc.1 ho e1, Oper.upon_enter]
  have hA := args_sound hrel.fr.m _ qs (args.toList.map a.eval) ha (fun i hi => evs_rel hrel args.toList i hi) (by simp)
  have hcall := hc.2 ρ (ASet ρ I st.mem L) w (args.toList.map a.eval) (fun b hb => by
    rcases hb with hb | ⟨l, r, _, hr, hs, rfl⟩
    · exact hrel.fr.m.lt b hb
    · exact hrel.lt hr hs) (hrel.fr.gl.sub fun b hb => .inl hb) hA
  have eargs : (args.map a.eval ++ #[]) = (args.toList.map a.eval).toArray := by apply Array.ext'; simp
  rw [eargs]
  refine hcall.mono ?_
  rintro e w' ⟨v, r, rfl, hpost, hext, hv⟩
  simp only [hd]
  have hfr := hrel.ext hext (I' := fun b => I b ∨ (w.heap.size ≤ b ∧ b < w'.heap.size)) (fun b hb => .inl hb) (fun b hb => hb)
  exact (h r hpost).go ρ _ _ w' (hfr.put (by rwa [Nat.blt_eq] at hN) (hv.of0.up (Nat.le_refl _) (fun _ _ => rfl) (fun b hb => .inr hb) (Tr.refl _ _)))
end
theorem xs_startH {G : Pg2} {N : Nat} {Γ : Fr} {K : Exit → PSt → Prop} {ops : Array Oper} {st : PSt} {id : Nat} (H : List Nat) (fin : Bool) (sch : Sched) (m : Nat) (hn : ops.size = schLen sch + m) (hok : (Region.noSelect ops && schOk ops fin sch (Array.replicate (schLen sch + m) false)) = true) (h : PS G N Γ ops H true fin sch m (Array.replicate (schLen sch + m) false) st K) : PWp G.toPg N Γ (.region id ops true) st K := by
  simp only [Bool.and_eq_true] at hok
  exact pe_start H _ hn (h.go hok.1 hok.2)
theorem xs_growN {G : Pg2} {N : Nat} {Γ : Fr} {K : Exit → PSt → Prop} {ops : Array Oper} {st : PSt} {H : List Nat} {ni fin : Bool} {m : Nat} {ls : Array Bool} (l : Nat) {row : Row} {sch : Sched} (hnew : H.any (Nat.beq l) = false) (hr : rowAt st.mem l = some row) (hlive : row.s.live) (h : PS G N Γ ops (l :: H) ni fin sch m ls st K) : PS G N Γ ops H ni fin sch m ls st K := xs_grow l hr hlive h
theorem br_nil {p : Nat → Prop} : ∀ i, i ∈ ([] : List Nat) → p i := fun _ h => absurd h List.not_mem_nil
theorem br_cons {p : Nat → Prop} {a : Nat} {l : List Nat} (h : p a) (h' : ∀ i, i ∈ l → p i) : ∀ i, i ∈ a :: l → p i := fun i hi => by
  rcases List.mem_cons.1 hi with rfl | hi
  · exact h
  · exact h' i hi
def RowsF (mem : List Row) (L : List Nat) : List Row → List Row → Prop
  | [], [] => True
  | r :: rs, q :: qs => (r = q ∨ (r.s.live ∧ q.s = r.s ∧ q.sz = r.sz ∧ q.n = r.n ∧ ∀ i, i < r.n → ∀ j, j < r.sz → ArgOk mem L (r.f i j) (q.f i j))) ∧ RowsF mem L rs qs
  | _, _ => False
theorem RowsF.get {mem : List Row} {L : List Nat} : ∀ {rs qs : List Row}, RowsF mem L rs qs → rs.length = qs.length ∧ ∀ (l : Nat) (q : Row), qs[l]? = some q → ∃ r, rs[l]? = some r ∧ (r = q ∨ (r.s.live ∧ q.s = r.s ∧ q.sz = r.sz ∧ q.n = r.n ∧ ∀ i, i < r.n → ∀ j, j < r.sz → ArgOk mem L (r.f i j) (q.f i j)))
  | [], [], _ => ⟨rfl, fun l q h => by simp at h⟩
  | r :: rs, q :: qs, h => by
    obtain ⟨h1, h2⟩ := RowsF.get h.2
    refine ⟨by simp [h1], fun l x hx => ?_⟩
    cases l with
    | zero =>
      simp only [List.getElem?_cons_zero, Option.some.injEq] at hx
      subst hx
      exact ⟨r, rfl, h.1⟩
    | succ l => exact h2 l x (by simpa using hx)
  | [], _ :: _, h => h.elim
  | _ :: _, [], h => h.elim
section
variable {N : Nat} {Γ : Fr} {st : PSt}
theorem can_frzm (L : List Nat) {tm : List (Nat × PV)} {m rows : List Row} (hL : ∀ l, l ∈ L → Γ.k0 ≤ l) (hm0 : frzK L st.mem 0 some = some m) (ht : TmF st L tm) (hr : RowsF st.mem L m rows) : Can N Γ st ⟨tm, rows⟩ := fun ρ I a w h => by
  have hm : frzL L 0 st.mem = m := by rw [frzK_eq] at hm0; simpa using hm0
  subst hm
  have hf := h.freeze L hL
  obtain ⟨hlen, hget⟩ := hr.get
  have hlen2 : rows.length = st.mem.length := by rw [← hlen, frzL_length]
  have hs' := hf.slot
  simp only [frzL_length] at hs'
  have gs : ∀ (l : Nat) (q : Row), rows[l]? = some q → ∃ r, (frzL L 0 st.mem)[l]? = some r ∧ q.s = r.s := fun l q hq => by
    obtain ⟨r, e1, e2⟩ := hget l q hq
    refine ⟨r, e1, ?_⟩
    rcases e2 with rfl | ⟨_, e, _⟩
    · rfl
    · exact e
  refine ⟨ρ, _, ⟨⟨fun l q hq hl => ?_, fun l l' q q' hne hq hq' h1 h2 => ?_, fun l q hq ho => ?_, fun l q hq ho => ?_, hf.fr.m.lt, fun l q hq hmp => ?_, fun l l' q q' hne hq hq' h1 h2 => ?_⟩, hf.fr.os, hf.fr.tape, hf.fr.output, hf.fr.size, hf.fr.block, hf.fr.shape, hf.fr.old, hf.fr.new, fun l q hq ho hlt => ?_, fun l q hq ho hk => ?_, by rw [hlen2]; exact h.fr.k0, hf.fr.ρ0, fun l q hq ho hk => ?_, hf.fr.gl⟩, hf.defers, hf.size, fun t => ?_⟩
  · obtain ⟨r, e1, e2⟩ := hget l q hq
    rw [hlen2]
    rcases e2 with rfl | ⟨e2, e3, e4, e5, e6⟩
    · have := hf.fr.m.row l r e1 hl
      simp only [frzL_length] at this
      exact this
    · obtain ⟨r0, f1, f2, f3, f4, f5, _⟩ := frzL_get L st.mem 0 l r e1
      have hl0 : r0.s.live := by
        rcases f5 with f5 | ⟨_, f5, _⟩
        · rw [← f5]; exact e2
        · rw [f5]; trivial
      obtain ⟨h1, cs, T, h2, h3⟩ := h.fr.m.row l r0 f1 hl0
      refine ⟨h1.trans (f3.symm.trans e4.symm), cs, T, h2, fun i hi j hj => ?_⟩
      obtain ⟨u, g1, g2, g3⟩ := h3 i (by rw [← f2, ← e5]; exact hi) j (by rw [← f3, ← e4]; exact hj)
      refine ⟨u, by rw [e4, f3]; exact g1, g2, ?_⟩
      have := e6 i (by rw [← e5]; exact hi) j (by rw [← e4]; exact hj)
      rw [f4] at this
      exact (this ρ I w u h.fr.m g3).of0
  · obtain ⟨r, e1, e2⟩ := gs l q hq
    obtain ⟨r', f1, f2⟩ := gs l' q' hq'
    exact hf.fr.m.apart l l' r r' hne e1 f1 (by rw [← e2]; exact h1) (by rw [← f2]; exact h2)
  · obtain ⟨r, e1, e2⟩ := gs l q hq
    exact hf.fr.m.mine l r e1 (by rw [← e2]; exact ho)
  · obtain ⟨r, e1, e2⟩ := gs l q hq
    exact hf.fr.m.imm l r e1 (by rw [← e2]; exact ho)
  · obtain ⟨r, e1, e2⟩ := hget l q hq
    rcases e2 with rfl | ⟨e2, e3, _⟩
    · have := hf.fr.m.side l r e1 hmp
      rw [frzL_length] at this
      rw [hlen2]
      exact this
    · rw [e3] at hmp; rw [hmp] at e2; exact e2.elim
  · obtain ⟨r, e1, e2⟩ := gs l q hq
    obtain ⟨r', f1, f2⟩ := gs l' q' hq'
    exact hf.fr.m.sap l l' r r' hne e1 f1 (by rw [← e2]; exact h1) (by rw [← f2]; exact h2)
  · obtain ⟨r, e1, e2⟩ := gs l q hq
    exact hf.fr.own l r e1 (by rw [← e2]; exact ho) hlt
  · obtain ⟨r, e1, e2⟩ := gs l q hq
    exact hf.fr.fresh l r e1 (by rw [← e2]; exact ho) hk
  · obtain ⟨r, e1, e2⟩ := gs l q hq
    exact hf.fr.sfresh l r e1 (by rw [← e2]; exact ho) hk
  · rw [hlen2]
    exact tmF_slot h.fr.m h.slot hs' tm ht t
theorem RowsF.set {mem : List Row} {L : List Nat} {r' : Row} : ∀ {m : List Row} {b : Nat} {r : Row}, m[b]? = some r → (r.s.live ∧ r'.s = r.s ∧ r'.sz = r.sz ∧ r'.n = r.n ∧ ∀ i, i < r.n → ∀ j, j < r.sz → ArgOk mem L (r.f i j) (r'.f i j)) → RowsF mem L m (m.set b r')
  | [], _, _, h, _ => by simp at h
  | x :: m, 0, r, h, hc => by
    simp only [List.getElem?_cons_zero, Option.some.injEq] at h
    subst h
    refine ⟨.inr hc, ?_⟩
    have : ∀ m : List Row, RowsF mem L m m := by
      intro m
      induction m with
      | nil => trivial
      | cons x m ih => exact ⟨.inl rfl, ih⟩
    exact this m
  | x :: m, b + 1, r, h, hc => ⟨.inl rfl, RowsF.set (by simpa using h) hc⟩
theorem can_frzb (L : List Nat) (b : Nat) (f' : Nat → Nat → PV) {one : Bool} {n sz : Nat} {f : Nat → Nat → PV} {tm : List (Nat × PV)} {m rows : List Row} (hL : ∀ l, l ∈ L → Γ.k0 ≤ l) (hm0 : frzK L st.mem 0 some = some m) (hb : rowAt m b = some ⟨.own, one, n, sz, f⟩) (hset : setM m b ⟨.own, one, n, sz, f'⟩ some = some rows) (hc : ∀ i, i < n → ∀ j, j < sz → ArgOk st.mem L (f i j) (f' i j)) (ht : TmF st L tm) : Can N Γ st ⟨tm, rows⟩ := by
  have e : rows = m.set b ⟨.own, one, n, sz, f'⟩ := by rw [setM_eq] at hset; exact (Option.some.inj hset).symm
  subst e
  rw [rowAt_get] at hb
  exact can_frzm L hL hm0 ht (RowsF.set hb ⟨trivial, rfl, rfl, rfl, hc⟩)
end
end Go.Proofs.YtcghpepighboaaaDoor
