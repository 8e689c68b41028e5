/- Walking code on pure states. -/
import Derived.Test.YtcefhgomkehokaaGreatB01
import Derived.Deep.LoopGhost
set_option linter.unusedSimpArgs false
set_option linter.unusedVariables false
namespace Go.Proofs.YtcefhgomkehokaaGreat
structure Pg where
  P : Program
  tab : List TI
  ok : TabOk P tab
  wide : P.follows .mixedOrders = true
def Qf (N : Nat) (Γ : Fr) (K : Exit → PSt → Prop) (e : Exit) (a : Act) (w : World) : Prop :=
  (∀ c, e ≠ .panic c) ∧ ∃ st ρ I, K e st ∧ Rel N Γ st ρ I a w
structure PWp (G : Pg) (N : Nat) (Γ : Fr) (c : Code) (st : PSt) (K : Exit → PSt → Prop) : Prop where
  go : ∀ ρ I a w, Rel N Γ st ρ I a w → c.wp G.P (Qf N Γ K) a w
section
variable {G : Pg} {N : Nat} {Γ : Fr} {st : PSt} {K : Exit → PSt → Prop}
theorem pskip (h : K .normal st) : PWp G N Γ .skip st K := .mk fun ρ I a w hr => wp_skip ⟨by simp, st, ρ, I, h, hr⟩
theorem pexit {id : Nat} (h : K (.exit id) st) : PWp G N Γ (.exit id) st K := .mk fun ρ I a w hr => wp_exit ⟨by simp, st, ρ, I, h, hr⟩
theorem pret (h : K .ret st) : PWp G N Γ .ret st K := .mk fun ρ I a w hr => wp_ret ⟨by simp, st, ρ, I, h, hr⟩
def KseqF (G : Pg) (N : Nat) (Γ : Fr) (y : Code) (K : Exit → PSt → Prop) : Exit → PSt → Prop
  | .normal, st => PWp G N Γ y st K
  | e, st => K e st
structure Kseq (G : Pg) (N : Nat) (Γ : Fr) (y : Code) (K : Exit → PSt → Prop) (e : Exit) (st : PSt) : Prop where
  go : KseqF G N Γ y K e st
theorem pseq {x y : Code} (h : PWp G N Γ x st (Kseq G N Γ y K)) : PWp G N Γ (.seq x y) st K := .mk fun ρ I a w hr =>
  wp_seq (wp_mono (h.go ρ I a w hr) fun e a w ⟨h1, st, ρ, I, h2, h3⟩ => by
    cases e with
    | normal => exact (show PWp G N Γ y st K from h2.go).go ρ I a w h3
    | _ => exact ⟨h1, st, ρ, I, h2.go, h3⟩)
theorem kseq_normal {y : Code} (h : PWp G N Γ y st K) : Kseq G N Γ y K .normal st := ⟨h⟩
theorem kseq_ret {y : Code} (h : K .ret st) : Kseq G N Γ y K .ret st := ⟨h⟩
theorem kseq_exit {y : Code} {id : Nat} (h : K (.exit id) st) : Kseq G N Γ y K (.exit id) st := ⟨h⟩
theorem pcond {c : Operand} {x y : Code} {b : Bool} (hc : st.ev c = .val (.bool b)) (h1 : b = true → PWp G N Γ x st K) (h2 : b = false → PWp G N Γ y st K) : PWp G N Γ (.cond c x y) st K := .mk fun ρ I a w hr => by
  have e := ev_rel hr c
  rw [hc] at e
  have e : a.eval c = .bool b := e
  cases b
  · exact wp_cond (t := false) e (by simpa using (h2 rfl).go ρ I a w hr)
  · exact wp_cond (t := true) e (by simpa using (h1 rfl).go ρ I a w hr)
theorem pcond_t {c : Operand} {x y : Code} (hc : st.ev c = .val (.bool true)) (h : PWp G N Γ x st K) : PWp G N Γ (.cond c x y) st K := pcond hc (fun _ => h) (fun h => by cases h)
theorem pcond_f {c : Operand} {x y : Code} (hc : st.ev c = .val (.bool false)) (h : PWp G N Γ y st K) : PWp G N Γ (.cond c x y) st K := pcond hc (fun h => by cases h) (fun _ => h)
def KblockF (id : Nat) (K : Exit → PSt → Prop) : Exit → PSt → Prop
  | .exit i, st => cond (Nat.beq i id) (K .normal st) (K (.exit i) st)
  | e, st => K e st
structure Kblock (id : Nat) (K : Exit → PSt → Prop) (e : Exit) (st : PSt) : Prop where
  go : KblockF id K e st
theorem pblock {id : Nat} {c : Code} (h : PWp G N Γ c st (Kblock id K)) : PWp G N Γ (.block id c) st K := .mk fun ρ I a w hr => by
  refine wp_block (wp_mono (h.go ρ I a w hr) fun e a w ⟨h1, st, ρ, I, h2, h3⟩ => ?_)
  cases e with
  | exit i =>
    have h2 := h2.go
    simp only [KblockF] at h2
    by_cases hi : i = id
    · subst hi
      have : Nat.beq i i = true := by simp
      rw [this] at h2
      simp only [Exit.inBlock, if_true]
      exact ⟨by simp, st, ρ, I, h2, h3⟩
    · have : Nat.beq i id = false := by
        cases hb : Nat.beq i id
        · rfl
        · exact absurd (Nat.eq_of_beq_eq_true hb) hi
      rw [this] at h2
      simp only [Exit.inBlock, if_neg hi]
      exact ⟨h1, st, ρ, I, h2, h3⟩
  | _ => exact ⟨h1, st, ρ, I, h2.go, h3⟩
theorem kblock_hit {id i : Nat} (hb : Nat.beq i id = true) (h : K .normal st) : Kblock id K (.exit i) st := ⟨by simp only [KblockF, hb]; exact h⟩
theorem kblock_miss {id i : Nat} (hb : Nat.beq i id = false) (h : K (.exit i) st) : Kblock id K (.exit i) st := ⟨by simp only [KblockF, hb]; exact h⟩
theorem kblock_ret {id : Nat} (h : K .ret st) : Kblock id K .ret st := ⟨h⟩
theorem kblock_normal {id : Nat} (h : K .normal st) : Kblock id K .normal st := ⟨h⟩
def Can (N : Nat) (Γ : Fr) (st st' : PSt) : Prop := ∀ ρ I a w, Rel N Γ st ρ I a w → ∃ ρ' I', Rel N Γ st' ρ' I' a w
theorem Can.refl : Can N Γ st st := fun ρ I a w h => ⟨ρ, I, h⟩
theorem Can.trans {s1 s2 s3 : PSt} (h : Can N Γ s1 s2) (k : Can N Γ s2 s3) : Can N Γ s1 s3 := fun ρ I a w hr => by
  obtain ⟨ρ', I', h1⟩ := h ρ I a w hr
  exact k ρ' I' a w h1
theorem pcan {c : Code} {st' : PSt} (hc : Can N Γ st st') (h : PWp G N Γ c st' K) : PWp G N Γ c st K := .mk fun ρ I a w hr => by
  obtain ⟨ρ', I', h1⟩ := hc ρ I a w hr
  exact h.go ρ' I' a w h1
def selT (st : PSt) : List Nat → List (Nat × PV)
  | [] => []
  | t :: r => (t, st.get t) :: selT st r
theorem look_selT (st : PSt) (t : Nat) : ∀ l, look t (selT st l) = st.get t ∨ look t (selT st l) = .junk
  | [] => .inr rfl
  | s :: r => by
    simp only [selT, look]
    cases hb : Nat.beq t s
    · exact look_selT st t r
    · rw [Nat.eq_of_beq_eq_true hb]; exact .inl rfl
theorem can_sel (l : List Nat) : Can N Γ st ⟨selT st l, st.mem⟩ := fun ρ I a w h => ⟨ρ, I, h.fr, h.defers, h.size, fun t => by
  simp only [PSt.get]
  rcases look_selT st t l with e | e
  · rw [e]; exact h.slot t
  · rw [e]; trivial⟩
def KloopF (N : Nat) (Γ : Fr) (J : Nat → PSt → Prop) (n : Nat) (K : Exit → PSt → Prop) : Exit → PSt → Prop
  | .normal, st => ∃ st', Can N Γ st st' ∧ ∃ n', n' < n ∧ J n' st'
  | e, st => K e st
structure Kloop (N : Nat) (Γ : Fr) (J : Nat → PSt → Prop) (n : Nat) (K : Exit → PSt → Prop) (e : Exit) (st : PSt) : Prop where
  go : KloopF N Γ J n K e st
theorem kloop_ret {J : Nat → PSt → Prop} {n : Nat} (h : K .ret st) : Kloop N Γ J n K .ret st := ⟨h⟩
theorem kloop_exit {J : Nat → PSt → Prop} {n id : Nat} (h : K (.exit id) st) : Kloop N Γ J n K (.exit id) st := ⟨h⟩
theorem kloop_next {J : Nat → PSt → Prop} {n : Nat} {st' : PSt} (n' : Nat) (hc : Can N Γ st st') (hn : n' < n) (h : J n' st') : Kloop N Γ J n K .normal st := ⟨⟨st', hc, n', hn, h⟩⟩
theorem ploop {c : Code} (J : Nat → PSt → Prop) (n0 : Nat) (h0 : J n0 st) (round : ∀ n st, J n st → PWp G N Γ c st (Kloop N Γ J n K)) : PWp G N Γ (.loop c) st K := .mk fun ρ I a w hr => by
  refine wp_loop_ghost (fun n a w => ∃ st ρ I, J n st ∧ Rel N Γ st ρ I a w) n0 ⟨st, ρ, I, h0, hr⟩ ?_
  rintro n a w ⟨st, ρ, I, hJ, hr⟩
  refine wp_mono ((round n st hJ).go ρ I a w hr) fun e a w ⟨h1, st, ρ, I, h2, h3⟩ => ?_
  cases e with
  | normal =>
    obtain ⟨st', hc, n', hn, hJ'⟩ := h2.go
    obtain ⟨ρ', I', hr'⟩ := hc ρ I a w h3
    exact ⟨n', hn, st', ρ', I', hJ', hr'⟩
  | _ => exact ⟨h1, st, ρ, I, h2.go, h3⟩
def KcutF (N : Nat) (Γ : Fr) (M : PSt → Prop) (K : Exit → PSt → Prop) : Exit → PSt → Prop
  | .normal, st => ∃ st', Can N Γ st st' ∧ M st'
  | e, st => K e st
structure Kcut (N : Nat) (Γ : Fr) (M : PSt → Prop) (K : Exit → PSt → Prop) (e : Exit) (st : PSt) : Prop where
  go : KcutF N Γ M K e st
theorem kcut {M : PSt → Prop} {st' : PSt} (hc : Can N Γ st st') (h : M st') : Kcut N Γ M K .normal st := ⟨⟨st', hc, h⟩⟩
theorem kcut_ret {M : PSt → Prop} (h : K .ret st) : Kcut N Γ M K .ret st := ⟨h⟩
theorem kcut_exit {M : PSt → Prop} {id : Nat} (h : K (.exit id) st) : Kcut N Γ M K (.exit id) st := ⟨h⟩
theorem pcut {x y : Code} (M : PSt → Prop) (h : PWp G N Γ x st (Kcut N Γ M K)) (hy : ∀ st, M st → PWp G N Γ y st K) : PWp G N Γ x st (Kseq G N Γ y K) := .mk fun ρ I a w hr =>
  wp_mono (h.go ρ I a w hr) fun e a w ⟨h1, st, ρ, I, h2, h3⟩ => by
    cases e with
    | normal =>
      obtain ⟨st', hc, hm⟩ := h2.go
      obtain ⟨ρ', I', hr'⟩ := hc ρ I a w h3
      exact ⟨h1, st', ρ', I', kseq_normal (hy st' hm), hr'⟩
    | _ => exact ⟨h1, st, ρ, I, ⟨h2.go⟩, h3⟩
structure POps (G : Pg) (N : Nat) (Γ : Fr) (ops : Array Oper) (l : List Oper) (st : PSt) (K : Exit → PSt → Prop) : Prop where
  go : ∀ ρ I a w, Rel N Γ st ρ I a w → wpList G.P ops (Qf N Γ K) l a w
theorem pregion {id : Nat} {ops : Array Oper} (h : POps G N Γ ops ops.toList st K) : PWp G N Γ (.region id ops false) st K :=
  .mk fun ρ I a w hr => wp_region_list (h.go ρ I a w hr)
theorem pnil {ops : Array Oper} (h : K .normal st) : POps G N Γ ops [] st K := .mk fun ρ I a w hr => ⟨by simp, st, ρ, I, h, hr⟩
variable {ops : Array Oper} {o : Oper} {rest : List Oper} {d : Nat} {r : PV} {pre : Prop}
theorem pop_read (hg : o.guard = none) (hd : o.dst = some d) (hN : Nat.blt d N = true) (hr : pread G.tab st o.op = some (r, pre)) (hp : pre) (h : POps G N Γ ops rest (st.put d r) K) : POps G N Γ ops (o :: rest) st K := .mk fun ρ I a w hrel => by
  obtain ⟨v, hv, hvr⟩ := pread_sound G.ok hrel o hr hp
  have hw : Region.wanted o (yielded ops a.tmps) = true := by simp [Region.wanted, hg]
  simp only [wpList, hw, if_true]
  refine .inl ?_
  simp only [Oper.wp, hv w (SameOn.refl _ _ _ _ _), Oper.upon_value, hd]
  exact h.go ρ I _ w (hrel.put (by rwa [Nat.blt_eq] at hN) hvr)
theorem pk_t {c : Bool} : c = true → (c == true) = true := fun h => by rw [h]; rfl
theorem pk_f {c : Bool} : c = false → (c == false) = true := fun h => by rw [h]; rfl
def gval (ops : Array Oper) (st : PSt) (j : Nat) (want : Bool) : Option Bool :=
  match (ops[j]?).bind (·.dst) with
  | some t => match st.get t with
    | .val (.bool b) => some (b == want)
    | .opt g (.val (.bool b)) => some (g && (b == want))
    | _ => none
  | none => none
theorem gval_sound {j : Nat} {want g : Bool} {ρ : Nat → Loc} {I : Nat → Prop} {a : Act} {w : World} (hrel : Rel N Γ st ρ I a w) (hg : o.guard = some (j, want)) (h : gval ops st j want = some g) : Region.wanted o (yielded ops a.tmps) = g := by
  unfold gval at h
  simp only [Region.wanted, hg, yielded]
  cases ht : (ops[j]?).bind (·.dst) with
  | none => rw [ht] at h; cases h
  | some t =>
    rw [ht] at h
    simp only [Option.bind_some] at h ⊢
    have hs := hrel.slot t
    have hin : ∀ b, a.tmps.getD t undef = .bool b → a.tmps[t]? = some (.bool b) := fun b hb => by
      simp only [Array.getD_eq_getD_getElem?] at hb
      cases he : a.tmps[t]? with
      | none => rw [he] at hb; cases hb
      | some x => rw [he] at hb; simp at hb; rw [hb]
    split at h
    · rename_i b hb
      rw [hb] at hs
      rw [hin b hs]
      simp only [Option.some.injEq] at h
      rw [← h]; cases b <;> cases want <;> rfl
    · rename_i g' b hb
      rw [hb] at hs
      simp only [Option.some.injEq] at h
      cases g'
      · have hu := hs.2 rfl
        rw [← h]
        cases he : a.tmps[t]? with
        | none => rfl
        | some x =>
          simp only [Array.getD_eq_getD_getElem?, he, Option.getD_some] at hu
          subst hu; rfl
      · rw [hin b (hs.1 rfl), ← h]; cases b <;> cases want <;> rfl
    · cases h
theorem strP_pre {p : PV} {c : Prop} (h : strP p c) : c := by
  cases p with
  | opt g q => exact h.2
  | _ => exact h
theorem pop_guard {j : Nat} {want g : Bool} (hg : o.guard = some (j, want)) (hd : o.dst = some d) (hN : Nat.blt d N = true) (hgv : gval ops st j want = some g) (hr : pread G.tab st o.op = some (r, pre)) (hp : g = true → strP r pre) (h : POps G N Γ ops rest (st.put d (.opt g (str r))) K) : POps G N Γ ops (o :: rest) st K := .mk fun ρ I a w hrel => by
  have hw := gval_sound hrel hg hgv
  simp only [wpList, hw]
  cases g
  · simp only [Bool.false_eq_true, if_false, hd]
    exact h.go ρ I _ w (hrel.put (by rwa [Nat.blt_eq] at hN) ⟨by simp, fun _ => rfl⟩)
  · obtain ⟨v, hv, hvr⟩ := pread_sound G.ok hrel o hr (strP_pre (hp rfl))
    have hvr := (str_rel hvr (hp rfl)).1
    refine .inl ?_
    simp only [Oper.wp, hv w (SameOn.refl _ _ _ _ _), Oper.upon_value, hd]
    exact h.go ρ I _ w (hrel.put (by rwa [Nat.blt_eq] at hN) ⟨fun _ => hvr, by simp⟩)
end
open Go.RowKit
def Ext (w w' : World) : Prop := Below w.heap.size w w'
theorem Ext.refl (w : World) : Ext w w := Below.refl _ _
theorem Ext.trans {a b c : World} (h : Ext a b) (k : Ext b c) : Ext a c := Below.trans h (Below.mono k h.size)
theorem Ext.tr {w w' : World} (h : Ext w w') {I : Nat → Prop} (hI : ∀ b, I b → b < w.heap.size) : Tr I w w' :=
  ⟨fun b hb => h.block b (hI b hb), fun b cs T fz hb => ⟨cs, by
    rw [h.block b (by
      by_cases hl : b < w.heap.size
      · exact hl
      · rw [Array.getElem?_eq_none (by omega)] at hb; cases hb)]; exact hb, rfl⟩⟩
def CallOk (P : Program) (f : FuncId) : Prop := ∀ (args : Array Value) (w : World), (callFunc f args).run P w = .ok (.enter f args) w
theorem callOk_of {P : Program} {f : FuncId} {fn : Func} {c : Code} (hf : P.funcs[f]? = some fn) (hb : fn.body = some c) (hn : (fn.name == "runtime.NumGoroutine") = false) : CallOk P f := fun args w => by
  have hn2 : ¬ fn.name = "runtime.NumGoroutine" := by simpa using hn
  simp [callFunc, hf, hn2, hb]
def ARel (ρ : Nat → Loc) (A : Nat → Prop) (w : World) : List PV → List Value → Prop
  | [], [] => True
  | p :: ps, v :: vs => VRel 0 ρ A w p v ∧ ARel ρ A w ps vs
  | _, _ => False
def PureC (P : Program) (f : FuncId) (args : List PV) (post : PV → Prop) : Prop :=
  CallOk P f ∧ ∀ (ρ : Nat → Loc) (A : Nat → Prop) (w : World) (vs : List Value), (∀ b, A b → b < w.heap.size) → GOk A w → ARel ρ A w args vs →
    Calls P f vs.toArray w fun e w' => ∃ v r, e = .returned v ∧ post r ∧ Ext w w' ∧ VRel 0 ρ (fun b => A b ∨ (w.heap.size ≤ b ∧ b < w'.heap.size)) w' r v
theorem PureC.mono {P : Program} {f : FuncId} {args : List PV} {post post' : PV → Prop} (h : PureC P f args post) (hp : ∀ r, post r → post' r) : PureC P f args post' :=
  ⟨h.1, fun ρ A w vs hA hG ha => (h.2 ρ A w vs hA hG ha).mono fun e w' ⟨v, r, h1, h2, h3⟩ => ⟨v, r, h1, hp r h2, h3⟩⟩
def ASet (ρ : Nat → Loc) (I : Nat → Prop) (mem : List Row) (L : List Nat) (b : Nat) : Prop := I b ∨ ∃ l r, l ∈ L ∧ mem[l]? = some r ∧ r.s.live ∧ b = (ρ l).b
def ArgOk (mem : List Row) (L : List Nat) (p q : PV) : Prop :=
  ∀ (ρ : Nat → Loc) (I : Nat → Prop) (w : World) (v : Value), MRel ρ I w mem → VRel mem.length ρ I w p v → VRel 0 ρ (ASet ρ I mem L) w q v
def ArgsOk (mem : List Row) (L : List Nat) : List PV → List PV → Prop
  | [], [] => True
  | p :: ps, q :: qs => ArgOk mem L p q ∧ ArgsOk mem L ps qs
  | _, _ => False
theorem argCl {mem : List Row} {L : List Nat} {p : PV} (h : Cl p) : ArgOk mem L p p := fun ρ I w v hm hv =>
  (VRel.close p mem.length 0 v h hv : VRel 0 ρ I w p v).up (Nat.le_refl _) (fun _ _ => rfl) (fun b hb => .inl hb) (Tr.refl _ _)
theorem argVal {mem : List Row} {L : List Nat} {x : Value} : ArgOk mem L (.val x) (.val x) := argCl trivial
theorem argVsl {mem : List Row} {L : List Nat} {n sz : Nat} {f : Nat → Nat → PV} : ArgOk mem L (.vsl n sz f) (.vsl n sz f) := argCl trivial
theorem argNil {mem : List Row} {L : List Nat} {sz : Nat} {f : Nat → Nat → PV} : ArgOk mem L (.val (.slice none 0 0)) (.vsl 0 sz f) := fun ρ I w v hm hv => ⟨none, 0, hv, Nat.le_refl _, .inl rfl⟩
theorem argOpt {mem : List Row} {L : List Nat} {g : Bool} {p q : PV} (hg : g = true) (h : ArgOk mem L p q) : ArgOk mem L (.opt g p) q := fun ρ I w v hm hv => h ρ I w v hm (hv.1 hg)
theorem argLsl {mem : List Row} {L : List Nat} {l i n : Nat} {r : Row} {f : Nat → Nat → PV} (hr : rowAt mem l = some r) (hs : r.s.live) (hL : l ∈ L) (hn : i + n ≤ r.n) (hc : ∀ a, a < n → ∀ b, b < r.sz → r.f (i + a) b = f a b ∧ Cl (f a b)) : ArgOk mem L (.lsl l i n) (.vsl n r.sz f) := by
  rintro ρ I w v hm ⟨hl, h⟩
  rw [rowAt_get] at hr
  rcases h with ⟨rfl, ad, rfl⟩ | ⟨cap, h1, rfl, h2⟩
  · exact ⟨ad, 0, rfl, Nat.le_refl _, .inl rfl⟩
  · refine ⟨_, cap, rfl, h1, .inr ⟨(ρ l).b, (ρ l).o + i * (ρ l).sz, rfl, .inr ⟨l, r, hL, hr, hs, rfl⟩, fun a ha b hb => ?_⟩⟩
    obtain ⟨hsz, cs, T, hc1, hc2⟩ := hm.row l r hr hs
    obtain ⟨u, g1, g2, g3⟩ := hc2 (i + a) (by omega) b hb
    obtain ⟨e1, e2⟩ := hc a ha b hb
    rw [e1] at g3
    refine ⟨u, ?_, g2, (VRel.close _ _ 0 _ e2 g3 : VRel 0 ρ I w _ _).up (Nat.le_refl _) (fun _ _ => rfl) (fun b hb => .inl hb) (Tr.refl _ _)⟩
    have : (ρ l).o + i * (ρ l).sz + a * r.sz + b = (ρ l).o + (i + a) * r.sz + b := by rw [hsz, Nat.add_mul]; omega
    simp only [World.cell?, hc1, this]
    exact g1
def Sc : PV → Prop
  | .junk => True
  | .val _ => True
  | .agg n f => ∀ i, i < n → Sc (f i)
  | .tup n f => ∀ i, i < n → Sc (f i)
  | .opt _ p => Sc p
  | _ => False
theorem Sc.rel {ρ ρ' : Nat → Loc} {I I' : Nat → Prop} {w w' : World} : ∀ (p : PV) (k k' : Nat) (v : Value), Sc p → VRel k ρ I w p v → VRel k' ρ' I' w' p v := by
  intro p
  induction p with
  | junk => intro k k' v _ _; trivial
  | val x => intro k k' v _ h; exact h
  | agg n f ih => rintro k k' v hc ⟨vs, h1, h2, h3⟩; exact ⟨vs, h1, h2, fun i hi => ⟨(h3 i hi).1, ih i k k' _ (hc i hi) (h3 i hi).2⟩⟩
  | tup n f ih => rintro k k' v hc ⟨vs, h1, h2, h3⟩; exact ⟨vs, h1, h2, fun i hi => ih i k k' _ (hc i hi) (h3 i hi)⟩
  | ptr l i j => intro k k' v hc; exact hc.elim
  | lsl l i n => intro k k' v hc; exact hc.elim
  | vsl n sz f ih => intro k k' v hc; exact hc.elim
  | vptr n sz f i j ih => intro k k' v hc; exact hc.elim
  | opt b p ih => rintro k k' v hc ⟨h1, h2⟩; exact ⟨fun hb => ih k k' _ hc (h1 hb), h2⟩
  | clo f n c ih => intro k k' v hc; exact hc.elim
  | mref l => intro k k' v hc; exact hc.elim
  | csl n sz f ih => intro k k' v hc; exact hc.elim
  | vmap c ih => intro k k' v hc; exact hc.elim
def frzL (L : List Nat) : Nat → List Row → List Row
  | _, [] => []
  | l, r :: m => cond (L.any (Nat.beq l)) (match r.s with
    | .own => { r with s := .imm }
    | _ => r) r :: frzL L (l + 1) m
def frzS : RS → RS
  | .own => .imm
  | s => s
def frz1 : Row → Row
  | ⟨s, o, n, sz, f⟩ => ⟨frzS s, o, n, sz, f⟩
def frzK {α : Type} (L : List Nat) : List Row → Nat → (List Row → Option α) → Option α
  | [], _, k => k []
  | r :: m, l, k => match (cond (L.any (Nat.beq l)) (frz1 r) r) with
    | ⟨s, o, n, sz, f⟩ => frzK L m (l + 1) fun m' => k (⟨s, o, n, sz, f⟩ :: m')
theorem frzK_eq {α : Type} (L : List Nat) : ∀ (m : List Row) (l : Nat) (k : List Row → Option α), frzK L m l k = k (frzL L l m)
  | [], _, _ => rfl
  | r :: m, l, k => by
    rw [frzK, frzL]
    obtain ⟨s, o, n, sz, f⟩ := r
    cases L.any (Nat.beq l)
    · simp only [cond_false]; rw [frzK_eq L m]
    · cases s <;> (simp only [cond_true, frz1, frzS]; rw [frzK_eq L m])
theorem frzL_length (L : List Nat) : ∀ (m : List Row) (l : Nat), (frzL L l m).length = m.length
  | [], _ => rfl
  | _ :: m, l => by simp [frzL, frzL_length L m]
theorem any_beq (L : List Nat) (l : Nat) : L.any (Nat.beq l) = true ↔ l ∈ L := by
  simp only [List.any_eq_true]
  constructor
  · rintro ⟨x, hx, hb⟩; rw [Nat.eq_of_beq_eq_true hb]; exact hx
  · intro h; exact ⟨l, h, by simp⟩
theorem frzL_get (L : List Nat) : ∀ (m : List Row) (s l : Nat) (r : Row), (frzL L s m)[l]? = some r → ∃ r0, m[l]? = some r0 ∧ r.n = r0.n ∧ r.sz = r0.sz ∧ r.f = r0.f ∧ (r.s = r0.s ∨ (r.s = .imm ∧ r0.s = .own ∧ s + l ∈ L)) ∧ (r.s = .own → s + l ∉ L)
  | [], _, _, _, h => by simp [frzL] at h
  | r0 :: m, s, 0, r, h => by
    simp only [frzL, List.getElem?_cons_zero, Option.some.injEq] at h
    refine ⟨r0, by simp, ?_⟩
    cases ha : L.any (Nat.beq s)
    · rw [ha] at h; simp only [cond_false] at h; subst h
      refine ⟨rfl, rfl, rfl, .inl rfl, fun _ hm => ?_⟩
      have := (any_beq L s).2 hm
      rw [ha] at this; cases this
    · rw [ha] at h; simp only [cond_true] at h
      cases hs : r0.s <;> simp only [hs] at h
      · subst h; exact ⟨rfl, rfl, rfl, .inl hs, fun h => by rw [hs] at h; cases h⟩
      · subst h; exact ⟨rfl, rfl, rfl, .inl hs, fun h => by rw [hs] at h; cases h⟩
      · subst h; exact ⟨rfl, rfl, rfl, .inr ⟨rfl, rfl, by simpa using (any_beq L s).1 ha⟩, fun h => by cases h⟩
      · subst h; exact ⟨rfl, rfl, rfl, .inl hs, fun h => by rw [hs] at h; cases h⟩
      · subst h; exact ⟨rfl, rfl, rfl, .inl hs, fun h => by rw [hs] at h; cases h⟩
  | r0 :: m, s, l + 1, r, h => by
    simp only [frzL, List.getElem?_cons_succ] at h
    obtain ⟨r1, h1, h2, h3, h4, h5, h6⟩ := frzL_get L m (s + 1) l r h
    rw [show s + 1 + l = s + (l + 1) by omega] at h5 h6
    exact ⟨r1, by simpa using h1, h2, h3, h4, h5, h6⟩
section
variable {G : Pg} {N : Nat} {Γ : Fr} {st : PSt} {ρ : Nat → Loc} {I : Nat → Prop} {a : Act} {w : World}
theorem args_sound (hm : MRel ρ I w st.mem) {L : List Nat} : ∀ (ps qs : List PV) (vs : List Value), ArgsOk st.mem L ps qs → (∀ i, i < ps.length → VRel st.mem.length ρ I w (nthP ps i) (vs.getD i undef)) → vs.length = ps.length → ARel ρ (ASet ρ I st.mem L) w qs vs
  | [], [], vs, _, _, hl => by
    have : vs = [] := by simpa using hl
    subst this; trivial
  | p :: ps, q :: qs, [], _, _, hl => by simp at hl
  | p :: ps, q :: qs, v :: vs, h, hv, hl => by
    refine ⟨h.1 ρ I w v hm (by simpa [nthP] using hv 0 (by simp)), args_sound hm ps qs vs h.2 (fun i hi => by simpa [nthP] using hv (i + 1) (by simpa using hi)) (by simpa using hl)⟩
  | [], _ :: _, _, h, _, _ => h.elim
  | _ :: _, [], _, h, _, _ => h.elim
theorem Rel.ext (h : Rel N Γ st ρ I a w) {w' : World} (hx : Ext w w') {I' : Nat → Prop} (hI : ∀ b, I b → I' b) (hI2 : ∀ b, I' b → I b ∨ (w.heap.size ≤ b ∧ b < w'.heap.size)) : Rel N Γ st ρ I' a w' := by
  have ht : Tr I w w' := hx.tr h.fr.m.lt
  refine ⟨⟨⟨fun l r hl hs => ?_, h.fr.m.apart, fun l r hl hs hb => ?_, fun l r hl hs => hI _ (h.fr.m.imm l r hl hs), fun b hb => ?_, fun l r hl hs => ?_, h.fr.m.sap⟩, hx.os.trans h.fr.os, hx.tape.trans h.fr.tape, hx.output.trans h.fr.output, Nat.le_trans h.fr.size hx.size, fun b hb he => ?_, fun b cs T fz hb => ?_, fun b hb hlt => ?_, fun b hb => hI b (h.fr.new b hb), h.fr.own, h.fr.fresh, h.fr.k0, h.fr.ρ0, h.fr.sfresh, h.fr.gl.mono hI ht⟩, h.defers, h.size, fun t => (h.slot t).up (Nat.le_refl _) (fun _ _ => rfl) hI ht⟩
  · obtain ⟨h1, cs, T, h2, h3⟩ := h.fr.m.row l r hl hs
    have hlt : (ρ l).b < w.heap.size := by
      by_cases hb : (ρ l).b < w.heap.size
      · exact hb
      · rw [Array.getElem?_eq_none (by omega)] at h2; cases h2
    refine ⟨h1, cs, T, by rw [hx.block _ hlt]; exact h2, fun i hi j hj => ?_⟩
    obtain ⟨u, g1, g2, g3⟩ := h3 i hi j hj
    exact ⟨u, g1, g2, g3.up (Nat.le_refl _) (fun _ _ => rfl) hI ht⟩
  · rcases hI2 _ hb with hb | hb
    · exact h.fr.m.mine l r hl hs hb
    · have hlive : r.s.live := by cases hr : r.s <;> rw [hr] at hs <;> first | exact hs.elim | trivial
      obtain ⟨h1, cs, T, h2, h3⟩ := h.fr.m.row l r hl hlive
      rw [Array.getElem?_eq_none (by omega)] at h2; cases h2
  · rcases hI2 b hb with hb | hb
    · exact Nat.lt_of_lt_of_le (h.fr.m.lt b hb) hx.size
    · exact hb.2
  · obtain ⟨g1, g2⟩ := h.fr.m.side l r hl hs
    refine ⟨fun hb => ?_, g2.up (Nat.le_refl _) rfl (.of fun b hb _ => hx.block b hb) fun i hi j hj v hv => hv.up (Nat.le_refl _) (fun _ _ => rfl) hI ht⟩
    rcases hI2 _ hb with hb | hb
    · exact g1 hb
    · have := g2.lt; omega
  · rw [hx.block b (Nat.lt_of_lt_of_le hb h.fr.size)]; exact h.fr.block b hb he
  · obtain ⟨cs', h1, h2⟩ := h.fr.shape b cs T fz hb
    obtain ⟨cs2, h3, h4⟩ := ht.shape b cs' T fz h1
    exact ⟨cs2, h3, h4.trans h2⟩
  · rcases hI2 b hb with hb | hb
    · exact h.fr.old b hb hlt
    · exact absurd (Nat.lt_of_lt_of_le hlt h.fr.size) (by omega)
theorem Rel.freeze (h : Rel N Γ st ρ I a w) (L : List Nat) (hL : ∀ l, l ∈ L → Γ.k0 ≤ l) :
    Rel N Γ ⟨st.tm, frzL L 0 st.mem⟩ ρ (ASet ρ I st.mem L) a w := by
  have hI : ∀ b, I b → ASet ρ I st.mem L b := fun b hb => .inl hb
  have hlt : ∀ l r, st.mem[l]? = some r → r.s.live → (ρ l).b < w.heap.size := fun l r hl hs => by
    obtain ⟨h1, cs, T, h2, h3⟩ := h.fr.m.row l r hl hs
    by_cases hb : (ρ l).b < w.heap.size
    · exact hb
    · rw [Array.getElem?_eq_none (by omega)] at h2; cases h2
  have up : ∀ {p : PV} {v : Value}, VRel st.mem.length ρ I w p v → VRel (frzL L 0 st.mem).length ρ (ASet ρ I st.mem L) w p v := fun hv => by
    rw [frzL_length]; exact hv.up (Nat.le_refl _) (fun _ _ => rfl) hI (Tr.refl _ _)
  have live0 : ∀ (r r0 : Row) l, (r.s = r0.s ∨ (r.s = .imm ∧ r0.s = .own ∧ 0 + l ∈ L)) → r.s.live → r0.s.live := fun r r0 l h hs => by
    rcases h with h | ⟨_, h, _⟩
    · rw [← h]; exact hs
    · rw [h]; trivial
  have mp0 : ∀ (r r0 : Row) l, (r.s = r0.s ∨ (r.s = .imm ∧ r0.s = .own ∧ 0 + l ∈ L)) → r.s = .mp → r0.s = .mp := fun r r0 l h hs => by
    rcases h with h | ⟨h, _, _⟩
    · rw [← h]; exact hs
    · rw [hs] at h; cases h
  refine ⟨⟨⟨fun l r hl hs => ?_, fun l l' r r' hne hl hl' hs hs' => ?_, fun l r hl hs hb => ?_, fun l r hl hs => ?_, fun b hb => ?_, fun l r hl hs => ?_, fun l l' r r' hne hl hl' hs hs' => ?_⟩, h.fr.os, h.fr.tape, h.fr.output, h.fr.size, h.fr.block, h.fr.shape, fun b hb hlt0 => ?_, fun b hb => hI b (h.fr.new b hb), fun l r hl hs hlt0 => ?_, fun l r hl hs hk => ?_, by rw [frzL_length]; exact h.fr.k0, h.fr.ρ0, fun l r hl hs hk => ?_, h.fr.gl.mono hI (Tr.refl _ _)⟩, h.defers, h.size, fun t => up (h.slot t)⟩
  · obtain ⟨r0, e1, e2, e3, e4, e5, _⟩ := frzL_get L st.mem 0 l r hl
    obtain ⟨h1, cs, T, h2, h3⟩ := h.fr.m.row l r0 e1 (live0 r r0 l e5 hs)
    rw [e2, e3, e4]
    exact ⟨h1, cs, T, h2, fun i hi j hj => by obtain ⟨u, g1, g2, g3⟩ := h3 i hi j hj; exact ⟨u, g1, g2, up g3⟩⟩
  · obtain ⟨r0, e1, _, _, _, e5, _⟩ := frzL_get L st.mem 0 l r hl
    obtain ⟨r1, f1, _, _, _, f5, _⟩ := frzL_get L st.mem 0 l' r' hl'
    exact h.fr.m.apart l l' r0 r1 hne e1 f1 (live0 _ _ l e5 hs) (live0 _ _ l' f5 hs')
  · obtain ⟨r0, e1, _, _, _, e5, e6⟩ := frzL_get L st.mem 0 l r hl
    have ho : r.s = .own := by cases hr : r.s <;> rw [hr] at hs <;> first | exact hs.elim | rfl
    have hnl := e6 ho
    have h0 : r0.s = .own := by
      rcases e5 with h | ⟨h, _⟩
      · rw [← h]; exact ho
      · rw [ho] at h; cases h
    rcases hb with hb | ⟨l', r', hl', hr', hs', hb⟩
    · exact h.fr.m.mine l r0 e1 (by rw [h0]; trivial) hb
    · by_cases hll : l = l'
      · subst hll; exact hnl (by simpa using hl')
      · exact h.fr.m.apart l l' r0 r' hll e1 hr' (by rw [h0]; trivial) hs' hb
  · obtain ⟨r0, e1, _, _, _, e5, _⟩ := frzL_get L st.mem 0 l r hl
    rcases e5 with e5 | ⟨_, e5, e7⟩
    · exact .inl (h.fr.m.imm l r0 e1 (by rw [← e5]; exact hs))
    · exact .inr ⟨l, r0, by simpa using e7, e1, by rw [e5]; trivial, rfl⟩
  · rcases hb with hb | ⟨l, r, _, hr, hs, rfl⟩
    · exact h.fr.m.lt b hb
    · exact hlt l r hr hs
  · obtain ⟨r0, e1, e2, e3, e4, e5, _⟩ := frzL_get L st.mem 0 l r hl
    have h0 : r0.s = .mp := mp0 r r0 l e5 hs
    obtain ⟨g1, g2⟩ := h.fr.m.side l r0 e1 h0
    refine ⟨fun hb => ?_, g2.up (Nat.le_of_eq e2) e3 (.refl _) fun i hi j hj v hv => by rw [e4]; exact up hv⟩
    rcases hb with hb | ⟨l', r', hl', hr', hs', hb⟩
    · exact g1 hb
    · obtain ⟨_, cs, T, h2, _⟩ := h.fr.m.row l' r' hr' hs'
      obtain ⟨o, q1, q2⟩ := g2.nc
      rw [hb, h2] at q1
      exact q2 _ _ _ (Option.some.inj q1).symm
  · obtain ⟨r0, e1, _, _, _, e5, _⟩ := frzL_get L st.mem 0 l r hl
    obtain ⟨r1, f1, _, _, _, f5, _⟩ := frzL_get L st.mem 0 l' r' hl'
    exact h.fr.m.sap l l' r0 r1 hne e1 f1 (mp0 _ _ l e5 hs) (mp0 _ _ l' f5 hs')
  · rcases hb with hb | ⟨l, r, hl, hr, hs, rfl⟩
    · exact h.fr.old b hb hlt0
    · cases hrs : r.s
      · rw [hrs] at hs; exact hs.elim
      · exact h.fr.old _ (h.fr.m.imm l r hr hrs) hlt0
      · exact absurd hlt0 (by have := h.fr.fresh l r hr (by rw [hrs]; trivial) (hL l hl); omega)
      · rw [hrs] at hs; exact hs.elim
      · rw [hrs] at hs; exact hs.elim
  · obtain ⟨r0, e1, _, _, _, e5, _⟩ := frzL_get L st.mem 0 l r hl
    refine h.fr.own l r0 e1 ?_ hlt0
    rcases e5 with e5 | ⟨e5, _⟩
    · rw [← e5]; exact hs
    · rw [e5] at hs; exact hs.elim
  · obtain ⟨r0, e1, _, _, _, e5, _⟩ := frzL_get L st.mem 0 l r hl
    refine h.fr.fresh l r0 e1 ?_ hk
    rcases e5 with e5 | ⟨e5, _⟩
    · rw [← e5]; exact hs
    · rw [e5] at hs; exact hs.elim
  · obtain ⟨r0, e1, _, _, _, e5, _⟩ := frzL_get L st.mem 0 l r hl
    exact h.fr.sfresh l r0 e1 (mp0 _ _ l e5 hs) hk
end
def ClL : List PV → Prop
  | [] => True
  | p :: l => Cl p ∧ ClL l
theorem clL_nth : ∀ (l : List PV) (i : Nat), ClL l → Cl (nthP l i)
  | [], _, _ => trivial
  | _ :: _, 0, h => h.1
  | _ :: l, i + 1, h => clL_nth l i h.2
theorem clA {n : Nat} {l : List PV} (h : ClL l) : Cl (.agg n (nthP l)) := fun i _ => clL_nth l i h
theorem clT {n : Nat} {l : List PV} (h : ClL l) : Cl (.tup n (nthP l)) := fun i _ => clL_nth l i h
section
variable {G : Pg} {N : Nat} {Γ : Fr} {st : PSt} {K : Exit → PSt → Prop} {ops : Array Oper} {o : Oper} {rest : List Oper} {d : Nat}
theorem call_run {P : Program} {f : FuncId} (hok : CallOk P f) {x : Operand} {args : Array Operand} {tys : Array TypeId} {a : Act} {cap : Array Value} (ho : o.op = .call ⟨.value x, args, tys⟩) (hx : a.eval x = .func (.func f) #[] cap) (w : World) :
    (execOp a.eval o).run P w = .ok (.enter f (args.map a.eval ++ cap)) w := by
  simp only [execOp, ho, resolve, Sem.run_bind, hx, Deferred.ofValue, Sem.run_pure, Result.andThen_ok, invoke]
  rw [hok]; simp
theorem evs_rel {ρ : Nat → Loc} {I : Nat → Prop} {a : Act} {w : World} (h : Rel N Γ st ρ I a w) : ∀ (l : List Operand) (i : Nat), i < (l.map st.ev).length → VRel st.mem.length ρ I w (nthP (l.map st.ev) i) ((l.map a.eval).getD i undef)
  | [], _, hi => by simp at hi
  | x :: l, 0, _ => by simpa [nthP] using ev_rel h x
  | x :: l, i + 1, hi => by simpa [nthP] using evs_rel h l i (by simpa using hi)
theorem pop_call {f : FuncId} {x : Operand} {args : Array Operand} {tys : Array TypeId} {c : Nat → PV} {qs : List PV} {post : PV → Prop} (L : List Nat) (hg : o.guard = none) (hd : o.dst = some d) (hN : Nat.blt d N = true) (ho : o.op = .call ⟨.value x, args, tys⟩) (hx : st.ev x = .clo f 0 c)
    (hc : PureC G.P f qs post) (ha : ArgsOk st.mem L (args.toList.map st.ev) qs) (h : ∀ r, post r → Sc r ∧ POps G N Γ ops rest (st.put d r) K) : POps G N Γ ops (o :: rest) st K := .mk fun ρ I a w hrel => by
  have hw : Region.wanted o (yielded ops a.tmps) = true := by simp [Region.wanted, hg]
  simp only [wpList, hw, if_true]
  refine .inl ?_
  have hxe := ev_rel hrel x
  rw [hx] at hxe
  obtain ⟨cap, e1, e2, _⟩ := hxe
  have e3 : cap = #[] := by simpa using e2
  subst e3
  simp only [Oper.wp, call_run hc.1 ho e1, Oper.upon_enter]
  have hA := args_sound hrel.fr.m _ qs (args.toList.map a.eval) ha (fun i hi => evs_rel hrel args.toList i hi) (by simp)
  have hcall := hc.2 ρ (ASet ρ I st.mem L) w (args.toList.map a.eval) (fun b hb => by
    rcases hb with hb | ⟨l, r, _, hr, hs, rfl⟩
    · exact hrel.fr.m.lt b hb
    · obtain ⟨h1, cs, T, h2, h3⟩ := hrel.fr.m.row l r hr hs
      by_cases hb : (ρ l).b < w.heap.size
      · exact hb
      · rw [Array.getElem?_eq_none (by omega)] at h2; cases h2) (hrel.fr.gl.sub fun b hb => .inl hb) hA
  have eargs : (args.map a.eval ++ #[]) = (args.toList.map a.eval).toArray := by apply Array.ext'; simp
  rw [eargs]
  refine hcall.mono ?_
  rintro e w' ⟨v, r, rfl, hpost, hext, hv⟩
  obtain ⟨hsc, hk⟩ := h r hpost
  simp only [hd]
  have hrel' := hrel.ext hext (I' := I) (fun _ h => h) (fun _ h => .inl h)
  exact hk.go ρ I _ w' (hrel'.put (by rwa [Nat.blt_eq] at hN) (Sc.rel r 0 _ v hsc hv))
theorem pop_callg {j : Nat} {want g : Bool} {f : FuncId} {x : Operand} {args : Array Operand} {tys : Array TypeId} {c : Nat → PV} {qs : List PV} {post : PV → Prop} (L : List Nat) (hg : o.guard = some (j, want)) (hd : o.dst = some d) (hN : Nat.blt d N = true) (hgv : gval ops st j want = some g) (ho : o.op = .call ⟨.value x, args, tys⟩) (hx : st.ev x = .clo f 0 c)
    (hc : g = true → PureC G.P f qs post) (ha : g = true → ArgsOk st.mem L (args.toList.map st.ev) qs) (h : g = true → ∀ r, post r → Sc r ∧ POps G N Γ ops rest (st.put d (.opt g r)) K) (hr0 : g = false → ∃ r, POps G N Γ ops rest (st.put d (.opt g r)) K) : POps G N Γ ops (o :: rest) st K := .mk fun ρ I a w hrel => by
  have hw := gval_sound hrel hg hgv
  simp only [wpList, hw]
  cases g
  · obtain ⟨r, hk⟩ := hr0 rfl
    simp only [Bool.false_eq_true, if_false, hd]
    exact hk.go ρ I _ w (hrel.put (by rwa [Nat.blt_eq] at hN) ⟨by simp, fun _ => rfl⟩)
  · have hc := hc rfl
    have ha := ha rfl
    simp only [if_true]
    refine .inl ?_
    have hxe := ev_rel hrel x
    rw [hx] at hxe
    obtain ⟨cap, e1, e2, _⟩ := hxe
    have e3 : cap = #[] := by simpa using e2
    subst e3
    simp only [Oper.wp, call_run hc.1 ho e1, Oper.upon_enter]
    have hA := args_sound hrel.fr.m _ qs (args.toList.map a.eval) ha (fun i hi => evs_rel hrel args.toList i hi) (by simp)
    have hcall := hc.2 ρ (ASet ρ I st.mem L) w (args.toList.map a.eval) (fun b hb => by
      rcases hb with hb | ⟨l, r, _, hr, hs, rfl⟩
      · exact hrel.fr.m.lt b hb
      · obtain ⟨h1, cs, T, h2, h3⟩ := hrel.fr.m.row l r hr hs
        by_cases hb : (ρ l).b < w.heap.size
        · exact hb
        · rw [Array.getElem?_eq_none (by omega)] at h2; cases h2) (hrel.fr.gl.sub fun b hb => .inl hb) hA
    have eargs : (args.map a.eval ++ #[]) = (args.toList.map a.eval).toArray := by apply Array.ext'; simp
    rw [eargs]
    refine hcall.mono ?_
    rintro e w' ⟨v, r, rfl, hpost, hext, hv⟩
    obtain ⟨hsc, hk⟩ := h rfl r hpost
    simp only [hd]
    have hrel' := hrel.ext hext (I' := I) (fun _ h => h) (fun _ h => .inl h)
    exact hk.go ρ I _ w' (hrel'.put (by rwa [Nat.blt_eq] at hN) ⟨fun _ => Sc.rel r 0 _ v hsc hv, by simp⟩)
end
def argTm : Nat → List PV → List (Nat × PV)
  | _, [] => []
  | i, p :: ps => (i, p) :: argTm (i + 1) ps
theorem look_argTm : ∀ (ps : List PV) (s t : Nat), look t (argTm s ps) = if s ≤ t then nthP ps (t - s) else .junk
  | [], s, t => by simp [argTm, look, nthP]
  | p :: ps, s, t => by
    simp only [argTm, look]
    by_cases h : t = s
    · subst h
      have : Nat.beq t t = true := by simp
      rw [this]; simp [nthP]
    · have : Nat.beq t s = false := by
        cases hb : Nat.beq t s
        · rfl
        · exact absurd (Nat.eq_of_beq_eq_true hb) h
      rw [this, cond_false, look_argTm ps (s + 1) t]
      by_cases hs : s ≤ t
      · rw [if_pos (by omega), if_pos hs, show t - s = (t - (s + 1)) + 1 by omega]; rfl
      · rw [if_neg (by omega), if_neg hs]
theorem nthP_out : ∀ (l : List PV) (i : Nat), l.length ≤ i → nthP l i = .junk
  | [], _, _ => rfl
  | _ :: l, 0, h => by simp at h
  | _ :: l, i + 1, h => nthP_out l i (by simpa using h)
theorem arel_nth {ρ : Nat → Loc} {A : Nat → Prop} {w : World} : ∀ (ps : List PV) (vs : List Value), ARel ρ A w ps vs → vs.length = ps.length ∧ ∀ i, i < ps.length → VRel 0 ρ A w (nthP ps i) (vs.getD i undef)
  | [], [], _ => ⟨rfl, fun i hi => by simp at hi⟩
  | p :: ps, v :: vs, h => by
    obtain ⟨h1, h2⟩ := arel_nth ps vs h.2
    refine ⟨by simp [h1], fun i hi => ?_⟩
    cases i with
    | zero => simpa [nthP] using h.1
    | succ i => simpa [nthP] using h2 i (by simpa using hi)
  | [], _ :: _, h => h.elim
  | _ :: _, [], h => h.elim
def presv (tab : List TI) (st : PSt) : ResultVar → RP
  | .tmp t => force (st.get t) fun p => some (p, True)
  | .cell x t => match st.get x with
    | .ptr l i j => match rowAt st.mem l with
      | some r => r.ok fun r => pload tab t r.n r.sz r.f i j
      | none => none
    | _ => none
def presl (tab : List TI) (st : PSt) : List ResultVar → Option (List PV × Prop)
  | [] => some ([], True)
  | x :: xs => match presv tab st x with
    | some (p, c) => match presl tab st xs with
      | some (ps, c') => some (p :: ps, c ∧ c')
      | none => none
    | none => none
def pack : List PV → PV
  | [q] => q
  | qs => .tup qs.length (nthP qs)
structure Kret (tab : List TI) (res : List ResultVar) (post : PV → Prop) (e : Exit) (st : PSt) : Prop where
  go : (e = .normal ∨ e = .ret) ∧ ∃ ps pre L qs, presl tab st res = some (ps, pre) ∧ pre ∧ ArgsOk st.mem L ps qs ∧ post (pack qs)
def resOf (tmps : Array Value) : ResultVar → Sem Value
  | .tmp t => pure (tmps.getD t undef)
  | .cell c t => do loadVar t (← asAddr (tmps.getD c undef))
theorem results_eq (fn : Func) (tmps : Array Value) : results fn tmps = (do let vs ← fn.results.mapM (resOf tmps); pure (if h : vs.size = 1 then vs[0] else .tuple vs)) := by
  unfold results
  exact congrArg (fun g : ResultVar → Sem Value => (do let vs ← fn.results.mapM g; pure (if h : vs.size = 1 then vs[0] else Value.tuple vs))) (by funext x; cases x <;> rfl)
theorem kret {tab : List TI} {res : List ResultVar} {post : PV → Prop} {st : PSt} {ps : List PV} {pre : Prop} {qs : List PV} (L : List Nat) (h1 : presl tab st res = some (ps, pre)) (h2 : pre) (h3 : ArgsOk st.mem L ps qs) (h4 : post (pack qs)) : Kret tab res post .ret st := ⟨.inr rfl, ps, pre, L, qs, h1, h2, h3, h4⟩
theorem presv_sound {P : Program} {tab : List TI} (hT : TabOk P tab) {N : Nat} {Γ : Fr} {st : PSt} {ρ : Nat → Loc} {I : Nat → Prop} {a : Act} {w : World} (h : Rel N Γ st ρ I a w) (x : ResultVar) {p : PV} {pre : Prop} (hr : presv tab st x = some (p, pre)) (hp : pre) :
    ∃ v, (resOf a.tmps x).run P w = .ok v w ∧ VRel st.mem.length ρ I w p v := by
  cases x with
  | tmp t =>
    simp only [presv, force_eq, Option.some.injEq, Prod.mk.injEq] at hr
    obtain ⟨rfl, rfl⟩ := hr
    exact ⟨_, rfl, h.slot t⟩
  | cell c t =>
    simp only [presv] at hr
    have hs := h.slot c
    split at hr
    · rename_i l i j hb
      rw [rowAt_get] at hr
      rw [hb] at hs
      split at hr
      · rename_i r0 hrow
        obtain ⟨hlive, e1⟩ := Row.ok_some hr
        obtain ⟨hsz, cs, T, hc, hcell⟩ := h.fr.m.row l r0 hrow hlive
        obtain ⟨v, hv, hrel⟩ := pload_sound (P := P) (ρ := ρ) (I := I) (w := w) (k := st.mem.length) (b := (ρ l).b) (o := (ρ l).o) hT (fun i hi j hj => by
          obtain ⟨u, g1, g2⟩ := hcell i hi j hj
          exact ⟨u, by simp [World.cell?, hc, g1], g2⟩) e1 hp
        refine ⟨v, ?_, hrel⟩
        have := hv w rfl
        simp only [Instr.loadAt, Instr.sureAddr, Sem.run_bind, Sem.run_pure, Result.andThen_ok] at this
        simp only [resOf, Sem.run_bind, hs.2, asAddr, Sem.run_pure, Result.andThen_ok, hsz]
        exact this
      · cases hr
    · cases hr
theorem presl_sound {P : Program} {tab : List TI} (hT : TabOk P tab) {N : Nat} {Γ : Fr} {st : PSt} {ρ : Nat → Loc} {I : Nat → Prop} {a : Act} {w : World} (h : Rel N Γ st ρ I a w) : ∀ (l : List ResultVar) (ps : List PV) (pre : Prop), presl tab st l = some (ps, pre) → pre →
    ∃ vs : List Value, (l.mapM (resOf a.tmps)).run P w = .ok vs w ∧ vs.length = ps.length ∧ ∀ i, i < ps.length → VRel st.mem.length ρ I w (nthP ps i) (vs.getD i undef)
  | [], ps, pre, hr, hp => by
    simp only [presl, Option.some.injEq, Prod.mk.injEq] at hr
    obtain ⟨rfl, rfl⟩ := hr
    exact ⟨[], by simp, rfl, fun i hi => by simp at hi⟩
  | x :: l, ps, pre, hr, hp => by
    simp only [presl] at hr
    split at hr
    · rename_i p c hx
      split at hr
      · rename_i ps' c' hl
        simp only [Option.some.injEq, Prod.mk.injEq] at hr
        obtain ⟨rfl, rfl⟩ := hr
        obtain ⟨v, hv, hvr⟩ := presv_sound hT h x hx hp.1
        obtain ⟨vs, hvs, hlen, hvsr⟩ := presl_sound hT h l ps' c' hl hp.2
        refine ⟨v :: vs, ?_, by simp [hlen], fun i hi => ?_⟩
        · simp only [List.mapM_cons, Sem.run_bind]
          rw [hv]
          simp only [Result.andThen_ok]
          rw [hvs]
          simp
        · cases i with
          | zero => simpa [nthP] using hvr
          | succ i => simpa [nthP] using hvsr i (by simpa using hi)
      · cases hr
    · cases hr
theorem pure_of {G : Pg} {f : FuncId} {fn : Func} {body : Code} {args : List PV} {post : PV → Prop} (hf : G.P.funcs[f]? = some fn) (hb : fn.body = some body) (hn : (fn.name == "runtime.NumGoroutine") = false) (hN : Nat.ble args.length fn.ntmps = true)
    (h : ∀ Γ : Fr, Γ.k0 = 0 → PWp G fn.ntmps Γ body ⟨argTm 0 args, []⟩ (Kret G.tab fn.results.toList post)) : PureC G.P f args post := by
  refine ⟨callOk_of hf hb hn, fun ρ A w vs hA hG ha => ?_⟩
  obtain ⟨hlen, hvs⟩ := arel_nth args vs ha
  have hN' : args.length ≤ fn.ntmps := Nat.le_of_ble_eq_true hN
  let Γ : Fr := { w0 := w, A := A, E := fun _ => False, k0 := 0, ρ0 := ρ }
  refine calls_of_wp hf hb ?_
  have hrel : Rel fn.ntmps Γ ⟨argTm 0 args, []⟩ ρ A { tmps := vs.toArray ++ Array.replicate (fn.ntmps - vs.toArray.size) undef, defers := [] } w := by
    refine ⟨⟨⟨fun l r hl => by simp at hl, fun l l' r r' _ hl => by simp at hl, fun l r hl => by simp at hl, fun l r hl => by simp at hl, hA, fun l r hl => by simp at hl, fun l l' r r' _ hl => by simp at hl⟩, rfl, rfl, rfl, Nat.le_refl _, fun _ _ _ => rfl, fun b cs T fz hb => ⟨cs, hb, rfl⟩, fun b hb _ => hb, fun b hb => hb, fun l r hl => by simp at hl, fun l r hl => by simp at hl, Nat.le_refl _, fun l hl => by simp [Γ] at hl, fun l r hl => by simp at hl, hG⟩, rfl, by simp; omega, fun t => ?_⟩
    simp only [PSt.get, look_argTm, Nat.zero_le, if_true, Nat.sub_zero, List.length_nil]
    by_cases ht : t < args.length
    · have e : (vs.toArray ++ Array.replicate (fn.ntmps - vs.toArray.size) undef).getD t undef = vs.getD t undef := by
        simp [Array.getD_eq_getD_getElem?, Array.getElem?_append, show t < vs.length by omega]
      rw [e]; exact (hvs t ht).of0
    · rw [nthP_out _ _ (by omega)]; trivial
  refine wp_mono ((h Γ rfl).go ρ A _ w hrel) ?_
  rintro e a' w' ⟨_, st', ρ', I', ⟨⟨he, ps, pre, L, qs, hps, hpre, hargs, hpost⟩⟩, hr⟩
  obtain ⟨us, hus, hul, hur⟩ := presl_sound G.ok hr _ ps pre hps hpre
  have hq := args_sound hr.fr.m ps qs us hargs hur hul
  have hsub : ∀ b, ASet ρ' I' st'.mem L b → (A b ∨ (w.heap.size ≤ b ∧ b < w'.heap.size)) := by
    have hI : ∀ b, I' b → (A b ∨ (w.heap.size ≤ b ∧ b < w'.heap.size)) := fun b hb => by
      by_cases hlt : b < w.heap.size
      · exact .inl (hr.fr.old b hb hlt)
      · exact .inr ⟨by omega, hr.fr.m.lt b hb⟩
    rintro b (hb | ⟨l, r, _, hl, hs, rfl⟩)
    · exact hI b hb
    · cases hrs : r.s
      · rw [hrs] at hs; exact hs.elim
      · exact hI _ (hr.fr.m.imm l r hl hrs)
      · refine .inr ⟨hr.fr.fresh l r hl (by rw [hrs]; trivial) (Nat.zero_le _), ?_⟩
        obtain ⟨h1, cs, T, h2, h3⟩ := hr.fr.m.row l r hl hs
        by_cases hb : (ρ' l).b < w'.heap.size
        · exact hb
        · rw [Array.getElem?_eq_none (by omega)] at h2; cases h2
      · rw [hrs] at hs; exact hs.elim
      · rw [hrs] at hs; exact hs.elim
  have hx : Ext w w' := ⟨hr.fr.os, hr.fr.tape, hr.fr.output, hr.fr.size, fun b hb => hr.fr.block b hb (fun h => h)⟩
  have hfin : ∃ v, (results fn a'.tmps).run G.P w' = .ok v w' ∧ VRel 0 ρ (fun b => A b ∨ (w.heap.size ≤ b ∧ b < w'.heap.size)) w' (pack qs) v := by
    obtain ⟨ql, qv⟩ := arel_nth qs us hq
    have hrun : (results fn a'.tmps).run G.P w' = .ok (if h : us.toArray.size = 1 then us.toArray[0] else .tuple us.toArray) w' := by
      rw [results_eq]
      simp only [Sem.run_bind, Array.mapM_eq_mapM_toList, Sem.run_map]
      rw [hus]
      simp
    refine ⟨_, hrun, ?_⟩
    have up : ∀ {p : PV} {v : Value}, VRel 0 ρ' (ASet ρ' I' st'.mem L) w' p v → VRel 0 ρ (fun b => A b ∨ (w.heap.size ≤ b ∧ b < w'.heap.size)) w' p v := fun hv =>
      hv.up (Nat.le_refl _) (fun l hl => by omega) hsub (Tr.refl _ _)
    by_cases h1 : us.toArray.size = 1
    · rw [dif_pos h1]
      have h1' : us.length = 1 := by simpa using h1
      obtain ⟨u, rfl⟩ : ∃ u, us = [u] := List.length_eq_one_iff.1 h1'
      obtain ⟨q, rfl⟩ : ∃ q, qs = [q] := List.length_eq_one_iff.1 (by rw [← ql]; exact h1')
      simpa [pack, nthP] using up (qv 0 (by simp))
    · rw [dif_neg h1]
      have hp : pack qs = .tup qs.length (nthP qs) := by
        match qs, ql with
        | [], _ => rfl
        | [q], ql => exact absurd (by simpa using ql) h1
        | _ :: _ :: _, _ => rfl
      rw [hp]
      exact ⟨us.toArray, rfl, by simpa using ql, fun i hi => by simpa using up (qv i hi)⟩
  obtain ⟨v, hv1, hv2⟩ := hfin
  rcases he with rfl | rfl
  · exact ⟨hr.defers, v, hv1, v, pack qs, rfl, hpost, hx, hv2⟩
  · exact ⟨hr.defers, v, hv1, v, pack qs, rfl, hpost, hx, hv2⟩
end Go.Proofs.YtcefhgomkehokaaGreat
namespace Go.Proofs.YtcefhgomkehokaaGreat
open Go.RowKit
section
variable {G : Pg} {N : Nat} {Γ : Fr} {st : PSt} {ρ : Nat → Loc} {I : Nat → Prop} {a : Act} {w : World}
theorem Rel.lt (h : Rel N Γ st ρ I a w) {l : Nat} {r : Row} (hl : st.mem[l]? = some r) (hs : r.s.live) : (ρ l).b < w.heap.size := by
  obtain ⟨h1, cs, T, h2, h3⟩ := h.fr.m.row l r hl hs
  by_cases hb : (ρ l).b < w.heap.size
  · exact hb
  · rw [Array.getElem?_eq_none (by omega)] at h2; cases h2
theorem RS.live_of_own {s : RS} (h : s.isOwn) : s.live := by cases s <;> first | exact h.elim | trivial
def addLoc (ρ : Nat → Loc) (k : Nat) (x : Loc) (l : Nat) : Loc := if l = k then x else ρ l
theorem Rel.newRow (h : Rel N Γ st ρ I a w) (cs : Array Value) (T : TypeId) (row : Row) (hs : row.s = .own)
    (hc : ∀ i, i < row.n → ∀ j, j < row.sz → ∃ u, cs[i * row.sz + j]? = some u ∧ u.oneCell' = true ∧ VRel st.mem.length ρ I w (row.f i j) u) :
    Rel N Γ ⟨st.tm, st.mem ++ [row]⟩ (addLoc ρ st.mem.length ⟨w.heap.size, 0, row.sz⟩) I a (w.alloc (.cells cs T)) := by
  have hx : Ext w (w.alloc (.cells cs T)) := Below.alloc (Below.refl _ _) (Nat.le_refl _) _
  have ht : Tr I w (w.alloc (.cells cs T)) := hx.tr h.fr.m.lt
  have hρ : ∀ l, l < st.mem.length → addLoc ρ st.mem.length ⟨w.heap.size, 0, row.sz⟩ l = ρ l := fun l hl => if_neg (by omega)
  have hρn : addLoc ρ st.mem.length ⟨w.heap.size, 0, row.sz⟩ st.mem.length = ⟨w.heap.size, 0, row.sz⟩ := if_pos rfl
  have hsz : (w.alloc (.cells cs T)).heap.size = w.heap.size + 1 := by simp
  have up : ∀ {p : PV} {v : Value}, VRel st.mem.length ρ I w p v → VRel (st.mem ++ [row]).length (addLoc ρ st.mem.length ⟨w.heap.size, 0, row.sz⟩) I (w.alloc (.cells cs T)) p v := fun hv =>
    hv.up (by simp) hρ (fun _ h => h) ht
  have get : ∀ l r, (st.mem ++ [row])[l]? = some r → (l < st.mem.length ∧ st.mem[l]? = some r) ∨ (l = st.mem.length ∧ r = row) := fun l r hl => by
    by_cases hlt : l < st.mem.length
    · rw [List.getElem?_append_left hlt] at hl; exact .inl ⟨hlt, hl⟩
    · rw [List.getElem?_append_right (by omega)] at hl
      by_cases he : l = st.mem.length
      · subst he; simp at hl; exact .inr ⟨rfl, hl.symm⟩
      · rw [List.getElem?_eq_none (by simp; omega)] at hl; cases hl
  refine ⟨⟨⟨fun l r hl hlive => ?_, fun l l' r r' hne hl hl' hs1 hs2 => ?_, fun l r hl ho hb => ?_, fun l r hl hi => ?_, fun b hb => ?_, fun l r hl hm => ?_, fun l l' r r' hne hl hl' hs1 hs2 => ?_⟩, h.fr.os, h.fr.tape, h.fr.output, by rw [hsz]; exact Nat.le_succ_of_le h.fr.size, fun b hb he => ?_, fun b c2 T2 fz hb => ?_, h.fr.old, h.fr.new, fun l r hl ho hlt => ?_, fun l r hl ho hk => ?_, by simp; exact Nat.le_succ_of_le h.fr.k0, fun l hl => ?_, fun l r hl hm hk => ?_, h.fr.gl.mono (fun _ h => h) ht⟩, h.defers, h.size, fun t => up (h.slot t)⟩
  · rcases get l r hl with ⟨hlt, hl⟩ | ⟨rfl, rfl⟩
    · rw [hρ l hlt]
      obtain ⟨h1, cs', T', h2, h3⟩ := h.fr.m.row l r hl hlive
      refine ⟨h1, cs', T', by rw [hx.block _ (h.lt hl hlive)]; exact h2, fun i hi j hj => ?_⟩
      obtain ⟨u, g1, g2, g3⟩ := h3 i hi j hj
      exact ⟨u, g1, g2, up g3⟩
    · rw [hρn]
      refine ⟨rfl, cs, T, ?_, fun i hi j hj => ?_⟩
      · show (w.heap.push _)[w.heap.size]? = _
        simp
      · obtain ⟨u, g1, g2, g3⟩ := hc i hi j hj
        exact ⟨u, by simpa using g1, g2, up g3⟩
  · rcases get l r hl with ⟨hlt, hA⟩ | ⟨e1, e2⟩ <;> rcases get l' r' hl' with ⟨hlt', hB⟩ | ⟨e3, e4⟩
    · rw [hρ l hlt, hρ l' hlt']; exact h.fr.m.apart l l' r r' hne hA hB hs1 hs2
    · rw [hρ l hlt, e3, hρn]; have := h.lt hA hs1; simp; omega
    · rw [hρ l' hlt', e1, hρn]; have := h.lt hB hs2; simp; omega
    · exact absurd (e1.trans e3.symm) hne
  · rcases get l r hl with ⟨hlt, hl⟩ | ⟨rfl, rfl⟩
    · rw [hρ l hlt] at hb; exact h.fr.m.mine l r hl ho hb
    · rw [hρn] at hb; exact absurd (h.fr.m.lt _ hb) (by simp)
  · rcases get l r hl with ⟨hlt, hl⟩ | ⟨rfl, rfl⟩
    · rw [hρ l hlt]; exact h.fr.m.imm l r hl hi
    · rw [hs] at hi; cases hi
  · rw [hsz]; exact Nat.lt_succ_of_lt (h.fr.m.lt b hb)
  · rcases get l r hl with ⟨hlt, hl⟩ | ⟨rfl, rfl⟩
    · rw [hρ l hlt]
      obtain ⟨g1, g2⟩ := h.fr.m.side l r hl hm
      exact ⟨g1, g2.up (Nat.le_refl _) rfl (.of fun b hb _ => hx.block b hb) fun i hi j hj v hv => up hv⟩
    · rw [hs] at hm; cases hm
  · rcases get l r hl with ⟨hlt, hA⟩ | ⟨e1, e2⟩ <;> rcases get l' r' hl' with ⟨hlt', hB⟩ | ⟨e3, e4⟩
    · rw [hρ l hlt, hρ l' hlt']; exact h.fr.m.sap l l' r r' hne hA hB hs1 hs2
    · rw [e4, hs] at hs2; cases hs2
    · rw [e2, hs] at hs1; cases hs1
    · exact absurd (e1.trans e3.symm) hne
  · rw [hx.block b (Nat.lt_of_lt_of_le hb h.fr.size)]; exact h.fr.block b hb he
  · obtain ⟨cs', h1, h2⟩ := h.fr.shape b c2 T2 fz hb
    obtain ⟨cs2, h3, h4⟩ := ht.shape b cs' T2 fz h1
    exact ⟨cs2, h3, h4.trans h2⟩
  · rcases get l r hl with ⟨hlt', hl⟩ | ⟨rfl, rfl⟩
    · rw [hρ l hlt'] at hlt ⊢; exact h.fr.own l r hl ho hlt
    · rw [hρn] at hlt; have := h.fr.size; simp at hlt; omega
  · rcases get l r hl with ⟨hlt', hl⟩ | ⟨rfl, rfl⟩
    · rw [hρ l hlt']; exact h.fr.fresh l r hl ho hk
    · rw [hρn]; exact h.fr.size
  · rw [hρ l (Nat.lt_of_lt_of_le hl h.fr.k0)]; exact h.fr.ρ0 l hl
  · rcases get l r hl with ⟨hlt, hl⟩ | ⟨rfl, rfl⟩
    · rw [hρ l hlt]; exact h.fr.sfresh l r hl hm hk
    · rw [hs] at hm; cases hm
theorem Rel.setRow (h : Rel N Γ st ρ I a w) {l : Nat} {r : Row} (hl : st.mem[l]? = some r) (ho : r.s.isOwn) {w' : World} (row : Row) (hs : row.s = .own) (hsz : row.sz = r.sz)
    {cs cs' : Array Value} {T : TypeId} (hb : w.heap[(ρ l).b]? = some (Obj.cells cs T (0, 0))) (hb' : w'.heap[(ρ l).b]? = some (Obj.cells cs' T (0, 0))) (hsize : cs'.size = cs.size)
    (hother : ∀ b, b ≠ (ρ l).b → w'.heap[b]? = w.heap[b]?) (hos : w'.os = w.os) (htape : w'.tape = w.tape) (hout : w'.output = w.output) (hhs : w'.heap.size = w.heap.size)
    (hc : ∀ i, i < row.n → ∀ j, j < row.sz → ∃ u, cs'[(ρ l).o + i * row.sz + j]? = some u ∧ u.oneCell' = true ∧ VRel st.mem.length ρ I w (row.f i j) u) :
    Rel N Γ ⟨st.tm, st.mem.set l row⟩ ρ I a w' := by
  have hlen : l < st.mem.length := by
    by_cases hlt : l < st.mem.length
    · exact hlt
    · rw [List.getElem?_eq_none (by omega)] at hl; cases hl
  have hnI : ¬ I (ρ l).b := h.fr.m.mine l r hl ho
  have ht : Tr I w w' := by
    refine ⟨fun b hbI => hother b (fun e => hnI (e ▸ hbI)), fun b c2 T2 fz h2 => ?_⟩
    by_cases e : b = (ρ l).b
    · subst e
      rw [hb] at h2
      simp only [Option.some.injEq, Obj.cells.injEq] at h2
      obtain ⟨rfl, rfl, rfl⟩ := h2
      exact ⟨cs', hb', hsize⟩
    · exact ⟨c2, by rw [hother b e]; exact h2, rfl⟩
  have up : ∀ {p : PV} {v : Value}, VRel st.mem.length ρ I w p v → VRel (st.mem.set l row).length ρ I w' p v := fun hv =>
    hv.up (by simp) (fun _ _ => rfl) (fun _ h => h) ht
  have get : ∀ l' r', (st.mem.set l row)[l']? = some r' → (l' ≠ l ∧ st.mem[l']? = some r') ∨ (l' = l ∧ r' = row) := fun l' r' hl' => by
    by_cases he : l' = l
    · subst he; rw [List.getElem?_set_self hlen] at hl'; exact .inr ⟨rfl, by simpa using hl'.symm⟩
    · rw [List.getElem?_set_ne (Ne.symm he)] at hl'; exact .inl ⟨he, hl'⟩
  have hlv := RS.live_of_own ho
  have hown' : row.s.isOwn := by rw [hs]; trivial
  refine ⟨⟨⟨fun l' r' hl' hlive => ?_, fun l1 l2 r1 r2 hne h1 h2 hs1 hs2 => ?_, fun l' r' hl' ho' hb2 => ?_, fun l' r' hl' hi => ?_, fun b hb2 => ?_, fun l' r' hl' hm => ?_, fun l1 l2 r1 r2 hne h1 h2 hs1 hs2 => ?_⟩, hos.trans h.fr.os, htape.trans h.fr.tape, hout.trans h.fr.output, by rw [hhs]; exact h.fr.size, fun b hb2 he => ?_, fun b c2 T2 fz hb2 => ?_, h.fr.old, h.fr.new, fun l' r' hl' ho' hlt => ?_, fun l' r' hl' ho' hk => ?_, by simpa using h.fr.k0, h.fr.ρ0, fun l' r' hl' hm hk => ?_, h.fr.gl.mono (fun _ h => h) ht⟩, h.defers, h.size, fun t => up (h.slot t)⟩
  · rcases get l' r' hl' with ⟨hne, hl'⟩ | ⟨rfl, rfl⟩
    · obtain ⟨h1, c2, T2, h2, h3⟩ := h.fr.m.row l' r' hl' hlive
      refine ⟨h1, c2, T2, by rw [hother _ (h.fr.m.apart l' l r' r hne hl' hl hlive hlv)]; exact h2, fun i hi j hj => ?_⟩
      obtain ⟨u, g1, g2, g3⟩ := h3 i hi j hj
      exact ⟨u, g1, g2, up g3⟩
    · obtain ⟨h1, _⟩ := h.fr.m.row l' r hl hlv
      refine ⟨h1.trans hsz.symm, cs', T, hb', fun i hi j hj => ?_⟩
      obtain ⟨u, g1, g2, g3⟩ := hc i hi j hj
      exact ⟨u, g1, g2, up g3⟩
  · rcases get l1 r1 h1 with ⟨n1, hA⟩ | ⟨e1, e2⟩ <;> rcases get l2 r2 h2 with ⟨n2, hB⟩ | ⟨e3, e4⟩
    · exact h.fr.m.apart l1 l2 r1 r2 hne hA hB hs1 hs2
    · rw [e3]; exact h.fr.m.apart l1 l r1 r n1 hA hl hs1 hlv
    · rw [e1]; exact h.fr.m.apart l l2 r r2 (Ne.symm n2) hl hB hlv hs2
    · exact absurd (e1.trans e3.symm) hne
  · rcases get l' r' hl' with ⟨n1, h1⟩ | ⟨rfl, rfl⟩
    · exact h.fr.m.mine l' r' h1 ho' hb2
    · exact hnI hb2
  · rcases get l' r' hl' with ⟨n1, h1⟩ | ⟨rfl, rfl⟩
    · exact h.fr.m.imm l' r' h1 hi
    · rw [hs] at hi; cases hi
  · rw [hhs]; exact h.fr.m.lt b hb2
  · rcases get l' r' hl' with ⟨n1, h1⟩ | ⟨rfl, rfl⟩
    · obtain ⟨g1, g2⟩ := h.fr.m.side l' r' h1 hm
      exact ⟨g1, g2.up (Nat.le_refl _) rfl (.of fun b _ hnc => hother b fun e => by subst e; exact hnc _ _ _ hb) fun i hi j hj v hv => up hv⟩
    · rw [hs] at hm; cases hm
  · rcases get l1 r1 h1 with ⟨n1, hA⟩ | ⟨e1, e2⟩ <;> rcases get l2 r2 h2 with ⟨n2, hB⟩ | ⟨e3, e4⟩
    · exact h.fr.m.sap l1 l2 r1 r2 hne hA hB hs1 hs2
    · rw [e4, hs] at hs2; cases hs2
    · rw [e2, hs] at hs1; cases hs1
    · exact absurd (e1.trans e3.symm) hne
  · by_cases e : b = (ρ l).b
    · exact absurd (h.fr.own l r hl ho (e ▸ hb2)) (e ▸ he)
    · rw [hother b e]; exact h.fr.block b hb2 he
  · obtain ⟨cs1, h1, h2⟩ := h.fr.shape b c2 T2 fz hb2
    obtain ⟨cs2, h3, h4⟩ := ht.shape b cs1 T2 fz h1
    exact ⟨cs2, h3, h4.trans h2⟩
  · rcases get l' r' hl' with ⟨n1, h1⟩ | ⟨rfl, rfl⟩
    · exact h.fr.own l' r' h1 ho' hlt
    · exact h.fr.own l' r hl ho hlt
  · rcases get l' r' hl' with ⟨n1, h1⟩ | ⟨rfl, rfl⟩
    · exact h.fr.fresh l' r' h1 ho' hk
    · exact h.fr.fresh l' r hl ho hk
  · rcases get l' r' hl' with ⟨n1, h1⟩ | ⟨rfl, rfl⟩
    · exact h.fr.sfresh l' r' h1 hm hk
    · rw [hs] at hm; cases hm
end
open Go.RowKit
def snocM {α : Type} (m : List Row) (r : Row) (n : Nat) (k : Nat → List Row → Option α) : Option α :=
  match m with
  | [] => k n [r]
  | x :: m => snocM m r (n + 1) fun l m' => k l (x :: m')
theorem snocM_eq {α : Type} : ∀ (m : List Row) (r : Row) (n : Nat) (k : Nat → List Row → Option α), snocM m r n k = k (n + m.length) (m ++ [r])
  | [], r, n, k => rfl
  | x :: m, r, n, k => by
    rw [snocM, snocM_eq m r (n + 1)]
    simp only [List.length_cons, List.cons_append]
    rw [show n + 1 + m.length = n + (m.length + 1) by omega]
def setM {α : Type} (m : List Row) (l : Nat) (r : Row) (k : List Row → Option α) : Option α :=
  match m, l with
  | [], _ => k []
  | _ :: m, 0 => k (r :: m)
  | x :: m, l + 1 => setM m l r fun m' => k (x :: m')
theorem setM_eq {α : Type} : ∀ (m : List Row) (l : Nat) (r : Row) (k : List Row → Option α), setM m l r k = k (m.set l r)
  | [], l, r, k => by cases l <;> rfl
  | _ :: m, 0, r, k => rfl
  | x :: m, l + 1, r, k => by rw [setM, setM_eq m l r]; rfl
def cellsOf {α : Type} (p : PV) (k : List PV → Option α) : Option α :=
  match p with
  | .agg n f => forceL n f 0 k
  | .val x => cond x.oneCell' (k [.val x]) none
  | .ptr a b c => k [.ptr a b c]
  | .lsl a b c => k [.lsl a b c]
  | .mref a => k [.mref a]
  | .vmap a => k [.vmap a]
  | .vsl m sz g => k [.vsl m sz g]
  | .vptr m sz g a b => k [.vptr m sz g a b]
  | .clo g m c => k [.clo g m c]
  | _ => none
def zl : List Value → List PV
  | [] => []
  | v :: l => .val v :: zl l
theorem zl_nth : ∀ (l : List Value) (i : Nat), i < l.length → nthP (zl l) i = .val (l.getD i undef)
  | [], _, h => by simp at h
  | v :: l, 0, _ => by simp [zl, nthP]
  | v :: l, i + 1, h => by simpa [zl, nthP] using zl_nth l i (by simpa using h)
def zcells {α : Type} (z : Value) (k : List PV → Option α) : Option α :=
  match z with
  | .agg cs => cond (cs.toList.all (·.oneCell')) (forceL cs.size (nthP (zl cs.toList)) 0 k) none
  | v => cond v.oneCell' (k [.val v]) none
def updR (f : Nat → Nat → PV) (i : Nat) (l : List PV) (a : Nat) : Nat → PV := cond (Nat.beq a i) (nthP l) (f a)
def pnew (tab : List TI) (st : PSt) : Op → Option (PV × List Row × Prop)
  | .alloc t => match (tget tab t).zero with
    | some z => zcells z fun l => snocM st.mem ⟨.own, true, 1, l.length, fun _ => nthP l⟩ 0 fun n m => some (.ptr n 0 0, m, True)
    | none => none
  | .box _ x => cellsOf (str (st.ev x)) fun l => snocM st.mem ⟨.own, true, 1, l.length, fun _ => nthP l⟩ 0 fun n m => some (.ptr n 0 0, m, strP (st.ev x) True)
  | _ => none
def pstore (tab : List TI) (st : PSt) : Op → Option (List Row × Prop)
  | .store t x y => match str (st.ev x) with
    | .ptr l i j => match rowAt st.mem l with
      | some r => match r.s with
        | .own => cellsOf (str (st.ev y)) fun c => cond (Nat.beq c.length (tget tab t).sz && Nat.ble (j + c.length) r.sz && Nat.blt 0 c.length)
            (forceL r.sz (fun q => cond (Nat.ble j q && Nat.blt q (j + c.length)) (nthP c (q - j)) (r.f i q)) 0 fun c' =>
              match r.one with
              | true => cond (Nat.beq r.n 1) (setM st.mem l ⟨.own, true, 1, r.sz, fun _ => nthP c'⟩ fun m => some (m, strP (st.ev x) (strP (st.ev y) (i < r.n)))) none
              | false => setM st.mem l ⟨.own, false, r.n, r.sz, updR r.f i c'⟩ fun m => some (m, strP (st.ev x) (strP (st.ev y) (i < r.n)))) none
        | _ => none
      | none => none
    | _ => none
  | _ => none
theorem cellsOf_sound {α : Type} {p : PV} {k : List PV → Option α} {y : α} (h : cellsOf p k = some y) : ∃ l, k l = some y ∧ ∀ (n : Nat) (ρ : Nat → Loc) (I : Nat → Prop) (w : World) (v : Value), VRel n ρ I w p v → v.cells.size = l.length ∧ ∀ i, i < l.length → (v.cells.getD i undef).oneCell' = true ∧ VRel n ρ I w (nthP l i) (v.cells.getD i undef) := by
  have one : ∀ (q : PV) (n : Nat) (ρ : Nat → Loc) (I : Nat → Prop) (w : World) (v : Value), v.oneCell' = true → VRel n ρ I w q v → v.cells.size = [q].length ∧ ∀ i, i < [q].length → (v.cells.getD i undef).oneCell' = true ∧ VRel n ρ I w (nthP [q] i) (v.cells.getD i undef) := by
    intro q n ρ I w v h1 h2
    have hc : v.cells = #[v] := by cases v <;> first | rfl | cases h1
    rw [hc]
    refine ⟨rfl, fun i hi => ?_⟩
    have : i = 0 := by simpa using hi
    subst this
    exact ⟨h1, h2⟩
  cases p with
  | agg m f =>
    rw [cellsOf, forceL_eq] at h
    refine ⟨_, h, ?_⟩
    rintro n ρ I w v ⟨vs, rfl, h2, h3⟩
    refine ⟨by simp [Value.cells, h2], fun i hi => ?_⟩
    have hi' : i < m := by simpa using hi
    rw [nthP_map _ _ _ _ hi', Nat.zero_add]
    exact h3 i hi'
  | val x =>
    obtain ⟨h1, h2⟩ := cond_some h
    refine ⟨_, h2, fun n ρ I w v hv => ?_⟩
    cases hv
    exact one _ n ρ I w _ h1 rfl
  | ptr a b c => exact ⟨_, h, fun n ρ I w v hv => one _ n ρ I w v (by rw [hv.2]; rfl) hv⟩
  | mref a => exact ⟨_, h, fun n ρ I w v hv => one _ n ρ I w v (by rw [hv.2]; rfl) hv⟩
  | csl a b c => cases h
  | vmap a => exact ⟨_, h, fun n ρ I w v hv => one _ n ρ I w v (by obtain ⟨b, es, clock, e, _⟩ := hv; rw [e]; rfl) hv⟩
  | lsl a b c => exact ⟨_, h, fun n ρ I w v hv => one _ n ρ I w v (by
      rcases hv.2 with ⟨_, _, e⟩ | ⟨cap, _, e, _⟩ <;> rw [e] <;> rfl) hv⟩
  | vsl a b c => exact ⟨_, h, fun n ρ I w v hv => one _ n ρ I w v (by obtain ⟨a, cap, e, _⟩ := hv; rw [e]; rfl) hv⟩
  | vptr a b c => exact ⟨_, h, fun n ρ I w v hv => one _ n ρ I w v (by obtain ⟨b, o, e, _⟩ := hv; rw [e]; rfl) hv⟩
  | clo a b c => exact ⟨_, h, fun n ρ I w v hv => one _ n ρ I w v (by obtain ⟨b, e, _⟩ := hv; rw [e]; rfl) hv⟩
  | junk => cases h
  | tup a b => cases h
  | opt a b => cases h
theorem zcells_sound {α : Type} {z : Value} {k : List PV → Option α} {y : α} (h : zcells z k = some y) : ∃ l, k l = some y ∧ z.cells.size = l.length ∧ ∀ i, i < l.length → (z.cells.getD i undef).oneCell' = true ∧ nthP l i = .val (z.cells.getD i undef) := by
  have one : ∀ v : Value, v.oneCell' = true → v.cells.size = [PV.val v].length ∧ ∀ i, i < [PV.val v].length → (v.cells.getD i undef).oneCell' = true ∧ nthP [PV.val v] i = .val (v.cells.getD i undef) := by
    intro v h1
    have hc : v.cells = #[v] := by cases v <;> first | rfl | cases h1
    rw [hc]
    refine ⟨rfl, fun i hi => ?_⟩
    have : i = 0 := by simpa using hi
    subst this
    exact ⟨h1, rfl⟩
  unfold zcells at h
  split at h
  · rename_i cs
    obtain ⟨h1, h2⟩ := cond_some h
    rw [forceL_eq] at h2
    refine ⟨_, h2, by simp [Value.cells], fun i hi => ?_⟩
    have hi' : i < cs.size := by simpa using hi
    rw [nthP_map _ _ _ _ hi', Nat.zero_add, zl_nth _ _ (by simpa using hi')]
    have e : cs.toList.getD i undef = cs.getD i undef := by simp [List.getD, Array.getD_eq_getD_getElem?]
    simp only [Value.cells]
    rw [e]
    refine ⟨?_, rfl⟩
    have := List.all_eq_true.1 h1 (cs.getD i undef) (by simp [Array.getD_eq_getD_getElem?, hi'])
    exact this
  · obtain ⟨h1, h2⟩ := cond_some h
    exact ⟨_, h2, one _ h1⟩
section
variable {G : Pg} {N : Nat} {Γ : Fr} {st : PSt} {ρ : Nat → Loc} {I : Nat → Prop} {a : Act} {w : World}
structure Made (N : Nat) (Γ : Fr) (st : PSt) (ρ : Nat → Loc) (I : Nat → Prop) (a : Act) (w : World) (r : PV) (m : List Row) (v : Value) (w' : World) (ρ' : Nat → Loc) : Prop where
  rel : Rel N Γ ⟨st.tm, m⟩ ρ' I a w'
  val : VRel m.length ρ' I w' r v
  ext : Ext w w'
  same : ∀ l, l < st.mem.length → ρ' l = ρ l
  mem : ∃ row, m = st.mem ++ [row]
  new : (ρ' st.mem.length).b = w.heap.size
theorem made_row (h : Rel N Γ st ρ I a w) (t : TypeId) (v : Value) (l : List PV) (hs : v.cells.size = l.length) (hv : ∀ i, i < l.length → (v.cells.getD i undef).oneCell' = true ∧ VRel st.mem.length ρ I w (nthP l i) (v.cells.getD i undef)) :
    Made N Γ st ρ I a w (.ptr (0 + st.mem.length) 0 0) (st.mem ++ [⟨.own, true, 1, l.length, fun _ => nthP l⟩]) (.pointer (some ⟨w.heap.size, 0, none⟩)) (w.alloc (.cells v.cells t)) (addLoc ρ st.mem.length ⟨w.heap.size, 0, l.length⟩) := by
  refine ⟨h.newRow v.cells t ⟨.own, true, 1, l.length, fun _ => nthP l⟩ rfl (fun i hi j hj => ?_), ⟨by simp, ?_⟩, Below.alloc (Below.refl _ _) (Nat.le_refl _) _, fun l hl => if_neg (by omega), ⟨_, rfl⟩, by simp [addLoc]⟩
  · have : i = 0 := by simpa using hi
    subst this
    refine ⟨v.cells.getD j undef, ?_, hv j hj⟩
    simp only at hj
    simp [Array.getD_eq_getD_getElem?, show j < v.cells.size by omega]
  · simp [addLoc]
theorem run_newVar (P : Program) (t : TypeId) (v : Value) (w : World) : (newVar t v).run P w = .ok ⟨w.heap.size, 0, none⟩ (w.alloc (.cells v.cells t)) := by
  simp only [newVar, newRow, Sem.run_bind, run_newObj, Result.andThen_ok, Sem.run_pure]
  rfl
theorem pnew_sound (h : Rel N Γ st ρ I a w) (o : Oper) {r : PV} {m : List Row} {pre : Prop} (hr : pnew G.tab st o.op = some (r, m, pre)) (hp : pre) :
    ∃ v w' ρ', (execOp a.eval o).run G.P w = .ok (.value v) w' ∧ Made N Γ st ρ I a w r m v w' ρ' := by
  cases ho : o.op with
  | alloc t =>
    rw [ho, pnew] at hr
    split at hr
    · rename_i z hz
      obtain ⟨l, h1, h2, h3⟩ := zcells_sound hr
      rw [snocM_eq] at h1
      simp only [Option.some.injEq, Prod.mk.injEq] at h1
      obtain ⟨rfl, rfl, rfl⟩ := h1
      have hzero : ∀ w' : World, (zeroValue t).run G.P w' = .ok z w' := fun w' => by
        rcases G.ok t with e | e
        · rw [e, tiOf] at hz
          cases hi : G.P.info? t with
          | none => rw [hi] at hz; cases hz
          | some i => rw [hi] at hz; simp only at hz; simp [zeroValue, typeInfo, hi, hz]
        · rw [e] at hz; cases hz
      refine ⟨_, _, _, ?_, made_row h t z l h2 (fun i hi => ⟨(h3 i hi).1, by rw [(h3 i hi).2]; rfl⟩)⟩
      simp only [execOp, ho, Instr.alloc, Sem.run_bind, hzero, Result.andThen_ok, run_newVar, Sem.run_pure]
    · cases hr
  | box t x =>
    rw [ho, pnew] at hr
    obtain ⟨l, h1, h2⟩ := cellsOf_sound hr
    rw [snocM_eq] at h1
    simp only [Option.some.injEq, Prod.mk.injEq] at h1
    obtain ⟨rfl, rfl, rfl⟩ := h1
    obtain ⟨hx, _⟩ := str_rel (ev_rel h x) hp
    obtain ⟨h3, h4⟩ := h2 _ _ _ _ _ hx
    refine ⟨_, _, _, ?_, made_row h t (a.eval x) l h3 h4⟩
    simp only [execOp, ho, Instr.box, Sem.run_bind, Result.andThen_ok, run_newVar, Sem.run_pure]
  | _ => rw [ho] at hr; cases hr
theorem heap_setCells (b : Nat) : ∀ (vs : List Value) (o : Nat) (w : World) (cs : Array Value) (T : TypeId) (fz : Nat × Nat), w.heap[b]? = some (Obj.cells cs T fz) →
    ∃ cs', (w.setCells b o vs).heap[b]? = some (Obj.cells cs' T fz) ∧ cs'.size = cs.size ∧ ∀ q, cs'[q]? = if o ≤ q ∧ q < o + vs.length ∧ q < cs.size then some (vs.getD (q - o) undef) else cs[q]?
  | [], o, w, cs, T, fz, h => ⟨cs, h, rfl, fun q => by rw [if_neg (by simp; omega)]⟩
  | v :: vs, o, w, cs, T, fz, h => by
    have h1 : (w.setCell ⟨b, o, none⟩ v).heap[b]? = some (Obj.cells (cs.setIfInBounds o v) T fz) := by simp [World.setCell, Array.getElem?_modify, h]
    obtain ⟨cs', h2, h3, h4⟩ := heap_setCells b vs (o + 1) (w.setCell ⟨b, o, none⟩ v) _ T fz h1
    refine ⟨cs', h2, by simpa using h3, fun q => ?_⟩
    rw [h4 q]
    simp only [Array.size_setIfInBounds, List.length_cons]
    by_cases c1 : o + 1 ≤ q ∧ q < o + 1 + vs.length ∧ q < cs.size
    · rw [if_pos c1, if_pos (by omega)]
      rw [show q - o = (q - (o + 1)) + 1 by omega]; simp
    · rw [if_neg c1]
      by_cases c2 : q = o
      · subst c2
        by_cases c3 : q < cs.size
        · rw [if_pos ⟨Nat.le_refl _, by omega, c3⟩]; simp [Array.getElem?_setIfInBounds, c3]
        · rw [if_neg (by omega), Array.getElem?_eq_none (by simp; omega), Array.getElem?_eq_none (by omega)]
      · rw [if_neg (by omega)]; simp [Array.getElem?_setIfInBounds, Ne.symm c2]
theorem other_setCells (b : Nat) : ∀ (vs : List Value) (o : Nat) (w : World) (b' : Nat), b' ≠ b → (w.setCells b o vs).heap[b']? = w.heap[b']?
  | [], o, w, b', h => rfl
  | v :: vs, o, w, b', h => by rw [World.setCells, other_setCells b vs _ _ b' h, Below.heap_setCell _ _ _ _ h]
theorem rest_setCells (b : Nat) : ∀ (vs : List Value) (o : Nat) (w : World), (w.setCells b o vs).os = w.os ∧ (w.setCells b o vs).tape = w.tape ∧ (w.setCells b o vs).output = w.output ∧ (w.setCells b o vs).heap.size = w.heap.size
  | [], o, w => ⟨rfl, rfl, rfl, rfl⟩
  | v :: vs, o, w => by
    obtain ⟨h1, h2, h3, h4⟩ := rest_setCells b vs (o + 1) (w.setCell ⟨b, o, none⟩ v)
    exact ⟨h1, h2, h3, by rw [World.setCells, h4]; simp [World.setCell]⟩
theorem run_storeVar_any (P : Program) (w : World) (b o : Nat) (ty : TypeId) (v : Value) (ht : w.there b o v.cells.size) (hi : (P.info? ty).map (·.size) = some v.cells.size) (h1 : ∀ i, i < v.cells.size → (v.cells.getD i undef).oneCell' = true) :
    (storeVar ty ⟨b, o, none⟩ v).run P w = .ok () (w.setCells b o v.cells.toList) := by
  have := run_storeCells_cells (P := P) b o v.cells.toList 0 w (fun j hj => by simpa using (ht j (by simpa using hj)).1) (fun j hj => by simpa using (ht j (by simpa using hj)).2)
    (fun u hu => by
      obtain ⟨i, hi, rfl⟩ := List.getElem_of_mem hu
      have := h1 i (by simpa using hi)
      simpa [Array.getD_eq_getD_getElem?, show i < v.cells.size by simpa using hi] using this)
  cases hq : P.info? ty with
  | none => simp [hq] at hi
  | some i =>
    have hs : v.cells.size = i.size := by simp [hq] at hi; omega
    simp only [Nat.add_zero] at this
    simp [storeVar, sizeOf, typeInfo, hq, hs, this]
def stL (st : PSt) : Op → Option Nat
  | .store _ x _ => match str (st.ev x) with
    | .ptr l _ _ => some l
    | _ => none
  | _ => none
theorem pstore_sound (h : Rel N Γ st ρ I a w) (o : Oper) {m : List Row} {pre : Prop} (hr : pstore G.tab st o.op = some (m, pre)) (hp : pre) :
    ∃ w' l row, (execOp a.eval o).run G.P w = .ok .skip w' ∧ Rel N Γ ⟨st.tm, m⟩ ρ I a w' ∧ stL st o.op = some l ∧ m = st.mem.set l row ∧ row.s = .own ∧ w'.heap.size = w.heap.size ∧ (∃ r, st.mem[l]? = some r ∧ r.s.isOwn) ∧ ∀ b, b ≠ (ρ l).b → w'.heap[b]? = w.heap[b]? := by
  cases ho : o.op with
  | store t x y =>
    rw [ho, pstore] at hr
    split at hr
    · rename_i l i j hb
      rw [rowAt_get] at hr
      split at hr
      · rename_i r hrow
        split at hr
        · rename_i hown
          obtain ⟨c, h1, h2⟩ := cellsOf_sound hr
          obtain ⟨hk, h1⟩ := cond_some h1
          simp only [Bool.and_eq_true, Nat.blt_eq] at hk
          obtain ⟨⟨hk1, hk2⟩, hk3⟩ := hk
          have hk1 : c.length = (tget G.tab t).sz := Nat.eq_of_beq_eq_true hk1
          have hk2 : j + c.length ≤ r.sz := Nat.le_of_ble_eq_true hk2
          rw [forceL_eq] at h1
          generalize hc' : List.map (fun q => cond (Nat.ble j q && Nat.blt q (j + c.length)) (nthP c (q - j)) (r.f i q)) (List.range' 0 r.sz) = c' at h1
          have hcn : ∀ q, q < r.sz → nthP c' q = cond (Nat.ble j q && Nat.blt q (j + c.length)) (nthP c (q - j)) (r.f i q) := fun q hq => by
            rw [← hc', nthP_map _ _ _ _ hq, Nat.zero_add]
          have hx0 := ev_rel h x
          have hy0 := ev_rel h y
          have hio : r.s.isOwn := by rw [hown]; trivial
          have hlive := RS.live_of_own hio
          -- the new row, in both forms
          have main : ∀ row : Row, row.s = .own → row.sz = r.sz → (∀ i', i' < row.n → i' < r.n ∧ ∀ q, q < r.sz → row.f i' q = if i' = i then nthP c' q else r.f i' q) → m = st.mem.set l row → pre = strP (st.ev x) (strP (st.ev y) (i < r.n)) →
              ∃ w' l row, (execOp a.eval o).run G.P w = .ok .skip w' ∧ Rel N Γ ⟨st.tm, m⟩ ρ I a w' ∧ stL st (.store t x y) = some l ∧ m = st.mem.set l row ∧ row.s = .own ∧ w'.heap.size = w.heap.size ∧ (∃ r, st.mem[l]? = some r ∧ r.s.isOwn) ∧ ∀ b, b ≠ (ρ l).b → w'.heap[b]? = w.heap[b]? := by
            rintro row hs hsz hf rfl rfl
            obtain ⟨hx, hp⟩ := str_rel hx0 hp
            obtain ⟨hy, hp⟩ := str_rel hy0 hp
            rw [hb] at hx
            obtain ⟨g1, g2⟩ := h2 _ _ _ _ _ hy
            obtain ⟨hsz0, cs, T, hcb, hcell⟩ := h.fr.m.row l r hrow hlive
            have hbase : ∀ q, q < r.sz → ∃ u, cs[(ρ l).o + i * r.sz + q]? = some u ∧ u.oneCell' = true ∧ VRel st.mem.length ρ I w (r.f i q) u := fun q hq => hcell i hp q hq
            have hin : ∀ q, q < r.sz → (ρ l).o + i * r.sz + q < cs.size := fun q hq => by
              obtain ⟨u, e, _⟩ := hbase q hq
              by_cases hlt : (ρ l).o + i * r.sz + q < cs.size
              · exact hlt
              · rw [Array.getElem?_eq_none (by omega)] at e; cases e
            have hthere : w.there (ρ l).b ((ρ l).o + i * r.sz + j) (a.eval y).cells.size := fun q hq => by
              refine ⟨?_, ?_⟩
              · have := hin (j + q) (by omega)
                simp only [World.cell?, hcb, Nat.add_assoc] at this ⊢
                simp [show (ρ l).o + (i * r.sz + (j + q)) < cs.size by omega]
              · simp [World.frozen?, hcb]
            obtain ⟨cs', k1, k2, k3⟩ := heap_setCells (ρ l).b (a.eval y).cells.toList ((ρ l).o + i * r.sz + j) w cs T (0, 0) hcb
            obtain ⟨z1, z2, z3, z4⟩ := rest_setCells (ρ l).b (a.eval y).cells.toList ((ρ l).o + i * r.sz + j) w
            refine ⟨w.setCells (ρ l).b ((ρ l).o + i * r.sz + j) (a.eval y).cells.toList, l, row, ?_, ?_, by simp only [stL, hb], rfl, hs, z4, ⟨r, hrow, hio⟩, fun b hne => other_setCells _ _ _ _ b hne⟩
            · simp only [execOp, ho, Instr.storeAt, Instr.sureAddr, hx.2, Sem.run_bind, Sem.run_pure, Result.andThen_ok, hsz0]
              rw [run_storeVar_any G.P w _ _ t (a.eval y) hthere (by rw [(tab_size G.ok (t := t) (w := w) (by omega)).2, g1, hk1]) (fun q hq => (g2 q (by omega)).1)]
              rfl
            · refine h.setRow hrow hio row hs hsz hcb k1 k2 (fun b hne => other_setCells _ _ _ _ b hne) z1 z2 z3 z4 (fun i' hi' q hq => ?_)
              rw [hsz] at hq ⊢
              obtain ⟨f1, f2⟩ := hf i' hi'
              rw [f2 q hq, k3]
              by_cases e : i' = i
              · subst e
                rw [if_pos rfl, hcn q hq]
                have hq2 := hin q hq
                by_cases hr1 : j ≤ q ∧ q < j + c.length
                · have e1 : (Nat.ble j q && Nat.blt q (j + c.length)) = true := by simp [Nat.ble_eq, Nat.blt_eq, hr1]
                  rw [e1, cond_true, if_pos (by simp; omega)]
                  obtain ⟨v1, v2⟩ := g2 (q - j) (by omega)
                  have e2 : (a.eval y).cells.toList.getD ((ρ l).o + i' * r.sz + q - ((ρ l).o + i' * r.sz + j)) undef = (a.eval y).cells.getD (q - j) undef := by
                    rw [show (ρ l).o + i' * r.sz + q - ((ρ l).o + i' * r.sz + j) = q - j by omega]
                    simp [List.getD, Array.getD_eq_getD_getElem?]
                  rw [e2]
                  exact ⟨_, rfl, v1, v2⟩
                · have e1 : (Nat.ble j q && Nat.blt q (j + c.length)) = false := by
                    cases hbb : (Nat.ble j q && Nat.blt q (j + c.length))
                    · rfl
                    · simp [Nat.ble_eq, Nat.blt_eq] at hbb; omega
                  rw [e1, cond_false, if_neg (by simp; omega)]
                  exact hbase q hq
              · rw [if_neg e, if_neg]
                · exact hcell i' f1 q hq
                · simp only [Array.length_toList]
                  rintro ⟨c1, c2, c3⟩
                  rcases Nat.lt_or_gt_of_ne e with hlt | hgt
                  · have : (i' + 1) * r.sz ≤ i * r.sz := Nat.mul_le_mul_right _ hlt
                    rw [Nat.add_mul] at this; omega
                  · have : (i + 1) * r.sz ≤ i' * r.sz := Nat.mul_le_mul_right _ hgt
                    rw [Nat.add_mul] at this; omega
          split at h1
          · obtain ⟨hn1, h1⟩ := cond_some h1
            have hn1 : r.n = 1 := Nat.eq_of_beq_eq_true hn1
            rw [setM_eq] at h1
            simp only [Option.some.injEq, Prod.mk.injEq] at h1
            obtain ⟨rfl, rfl⟩ := h1
            refine main ⟨.own, true, 1, r.sz, fun _ => nthP c'⟩ rfl rfl (fun i' hi' => ⟨by rw [hn1]; exact hi', fun q hq => ?_⟩) rfl rfl
            have hi0 : i < r.n := (str_rel hy0 (str_rel hx0 hp).2).2
            have : i' = i := by simp at hi'; omega
            rw [if_pos this]
          · rw [setM_eq] at h1
            simp only [Option.some.injEq, Prod.mk.injEq] at h1
            obtain ⟨rfl, rfl⟩ := h1
            refine main ⟨.own, false, r.n, r.sz, updR r.f i c'⟩ rfl rfl (fun i' hi' => ⟨hi', fun q hq => ?_⟩) rfl rfl
            simp only [updR]
            by_cases e : i' = i
            · subst e
              have : Nat.beq i' i' = true := by simp
              rw [this, if_pos rfl]; rfl
            · have : Nat.beq i' i = false := by
                cases hbb : Nat.beq i' i
                · rfl
                · exact absurd (Nat.eq_of_beq_eq_true hbb) e
              rw [this, if_neg e]; rfl
        · cases hr
      · cases hr
    · cases hr
  | _ => rw [ho] at hr; cases hr
variable {K : Exit → PSt → Prop} {ops : Array Oper} {o : Oper} {rest : List Oper} {d : Nat} {r : PV} {pre : Prop} {m : List Row}
theorem pop_new (hg : o.guard = none) (hd : o.dst = some d) (hN : Nat.blt d N = true) (hr : pnew G.tab st o.op = some (r, m, pre)) (hp : pre) (h : POps G N Γ ops rest (PSt.put ⟨st.tm, m⟩ d r) K) : POps G N Γ ops (o :: rest) st K := .mk fun ρ I a w hrel => by
  obtain ⟨v, w', ρ', hv, hm⟩ := pnew_sound hrel o hr hp
  have hw : Region.wanted o (yielded ops a.tmps) = true := by simp [Region.wanted, hg]
  simp only [wpList, hw, if_true]
  refine .inl ?_
  simp only [Oper.wp, hv, Oper.upon_value, hd]
  exact h.go ρ' I _ w' (hm.rel.put (by rwa [Nat.blt_eq] at hN) hm.val)
theorem pop_store (hg : o.guard = none) (hd : o.dst = none) (hr : pstore G.tab st o.op = some (m, pre)) (hp : pre) (h : POps G N Γ ops rest ⟨st.tm, m⟩ K) : POps G N Γ ops (o :: rest) st K := .mk fun ρ I a w hrel => by
  obtain ⟨w', l, row, hv, hm, _⟩ := pstore_sound hrel o hr hp
  have hw : Region.wanted o (yielded ops a.tmps) = true := by simp [Region.wanted, hg]
  simp only [wpList, hw, if_true]
  refine .inl ?_
  simp only [Oper.wp, hv, Oper.upon_skip, hd, Act.put]
  exact h.go ρ I _ w' hm
end
end Go.Proofs.YtcefhgomkehokaaGreat
