/- Walking code on pure states. -/
import Derived.Test.YtcghpepighboaaaDoorPvReadOk
import Derived.Deep.LoopGhost
set_option linter.unusedSimpArgs false
set_option linter.unusedVariables false
namespace Go.Proofs.YtcghpepighboaaaDoor

/-- a program and its table of types -/
structure Pg where
  P : Program
  tab : List TI
  ok : TabOk P tab
  wide : P.follows .mixedOrders = true

/-- a post over pure states -/
def Qf (N : Nat) (Γ : Fr) (K : Exit → PSt → Prop) (e : Exit) (a : Act) (w : World) : Prop :=
  (∀ c, e ≠ .panic c) ∧ ∃ st ρ I, K e st ∧ Rel N Γ st ρ I a w

structure PWp (G : Pg) (N : Nat) (Γ : Fr) (c : Code) (st : PSt) (K : Exit → PSt → Prop) : Prop where
  go : ∀ ρ I a w, Rel N Γ st ρ I a w → c.wp G.P (Qf N Γ K) a w

section
variable {G : Pg} {N : Nat} {Γ : Fr} {st : PSt} {K : Exit → PSt → Prop}

theorem pskip (h : K .normal st) : PWp G N Γ .skip st K := .mk fun ρ I a w hr => wp_skip ⟨by simp, st, ρ, I, h, hr⟩
theorem pexit {id : Nat} (h : K (.exit id) st) : PWp G N Γ (.exit id) st K := .mk fun ρ I a w hr => wp_exit ⟨by simp, st, ρ, I, h, hr⟩
theorem pret (h : K .ret st) : PWp G N Γ .ret st K := .mk fun ρ I a w hr => wp_ret ⟨by simp, st, ρ, I, h, hr⟩
theorem pmono {c : Code} {K' : Exit → PSt → Prop} (h : PWp G N Γ c st K) (hk : ∀ e st, K e st → K' e st) : PWp G N Γ c st K' :=
  .mk fun ρ I a w hr => wp_mono (h.go ρ I a w hr) fun e a w ⟨h1, st, ρ, I, h2, h3⟩ => ⟨h1, st, ρ, I, hk _ _ h2, h3⟩

/-- behind x: y -/
def KseqF (G : Pg) (N : Nat) (Γ : Fr) (y : Code) (K : Exit → PSt → Prop) : Exit → PSt → Prop
  | .normal, st => PWp G N Γ y st K
  | e, st => K e st
structure Kseq (G : Pg) (N : Nat) (Γ : Fr) (y : Code) (K : Exit → PSt → Prop) (e : Exit) (st : PSt) : Prop where
  go : KseqF G N Γ y K e st
theorem pseq {x y : Code} (h : PWp G N Γ x st (Kseq G N Γ y K)) : PWp G N Γ (.seq x y) st K := .mk fun ρ I a w hr =>
  wp_seq (wp_mono (h.go ρ I a w hr) fun e a w ⟨h1, st, ρ, I, h2, h3⟩ => by
    cases e with
    | normal => exact (show PWp G N Γ y st K from h2.go).go ρ I a w h3
    | _ => exact ⟨h1, st, ρ, I, h2.go, h3⟩)
theorem kseq_normal {y : Code} (h : PWp G N Γ y st K) : Kseq G N Γ y K .normal st := ⟨h⟩
theorem kseq_ret {y : Code} (h : K .ret st) : Kseq G N Γ y K .ret st := ⟨h⟩
theorem kseq_exit {y : Code} {id : Nat} (h : K (.exit id) st) : Kseq G N Γ y K (.exit id) st := ⟨h⟩

theorem pcond {c : Operand} {x y : Code} {b : Bool} (hc : st.ev c = .val (.bool b)) (h1 : b = true → PWp G N Γ x st K) (h2 : b = false → PWp G N Γ y st K) : PWp G N Γ (.cond c x y) st K := .mk fun ρ I a w hr => by
  have e := ev_rel hr c
  rw [hc] at e
  have e : a.eval c = .bool b := e
  cases b
  · exact wp_cond (t := false) e (by simpa using (h2 rfl).go ρ I a w hr)
  · exact wp_cond (t := true) e (by simpa using (h1 rfl).go ρ I a w hr)

theorem pcond_t {c : Operand} {x y : Code} (hc : st.ev c = .val (.bool true)) (h : PWp G N Γ x st K) : PWp G N Γ (.cond c x y) st K := pcond hc (fun _ => h) (fun h => by cases h)
theorem pcond_f {c : Operand} {x y : Code} (hc : st.ev c = .val (.bool false)) (h : PWp G N Γ y st K) : PWp G N Γ (.cond c x y) st K := pcond hc (fun h => by cases h) (fun _ => h)

/-- behind a block -/
def KblockF (id : Nat) (K : Exit → PSt → Prop) : Exit → PSt → Prop
  | .exit i, st => cond (Nat.beq i id) (K .normal st) (K (.exit i) st)
  | e, st => K e st
structure Kblock (id : Nat) (K : Exit → PSt → Prop) (e : Exit) (st : PSt) : Prop where
  go : KblockF id K e st
theorem pblock {id : Nat} {c : Code} (h : PWp G N Γ c st (Kblock id K)) : PWp G N Γ (.block id c) st K := .mk fun ρ I a w hr => by
  refine wp_block (wp_mono (h.go ρ I a w hr) fun e a w ⟨h1, st, ρ, I, h2, h3⟩ => ?_)
  cases e with
  | exit i =>
    have h2 := h2.go
    simp only [KblockF] at h2
    by_cases hi : i = id
    · subst hi
      have : Nat.beq i i = true := by simp
      rw [this] at h2
      simp only [Exit.inBlock, if_true]
      exact ⟨by simp, st, ρ, I, h2, h3⟩
    · have : Nat.beq i id = false := by
        cases hb : Nat.beq i id
        · rfl
        · exact absurd (Nat.eq_of_beq_eq_true hb) hi
      rw [this] at h2
      simp only [Exit.inBlock, if_neg hi]
      exact ⟨h1, st, ρ, I, h2, h3⟩
  | _ => exact ⟨h1, st, ρ, I, h2.go, h3⟩

theorem kblock_hit {id i : Nat} (hb : Nat.beq i id = true) (h : K .normal st) : Kblock id K (.exit i) st := ⟨by simp only [KblockF, hb]; exact h⟩
theorem kblock_miss {id i : Nat} (hb : Nat.beq i id = false) (h : K (.exit i) st) : Kblock id K (.exit i) st := ⟨by simp only [KblockF, hb]; exact h⟩
theorem kblock_ret {id : Nat} (h : K .ret st) : Kblock id K .ret st := ⟨h⟩
theorem kblock_normal {id : Nat} (h : K .normal st) : Kblock id K .normal st := ⟨h⟩

/-- the state st' says no more than st -/
def Can (N : Nat) (Γ : Fr) (st st' : PSt) : Prop := ∀ ρ I a w, Rel N Γ st ρ I a w → ∃ ρ' I', Rel N Γ st' ρ' I' a w
theorem Can.refl : Can N Γ st st := fun ρ I a w h => ⟨ρ, I, h⟩
theorem Can.trans {s1 s2 s3 : PSt} (h : Can N Γ s1 s2) (k : Can N Γ s2 s3) : Can N Γ s1 s3 := fun ρ I a w hr => by
  obtain ⟨ρ', I', h1⟩ := h ρ I a w hr
  exact k ρ' I' a w h1
theorem pcan {c : Code} {st' : PSt} (hc : Can N Γ st st') (h : PWp G N Γ c st' K) : PWp G N Γ c st K := .mk fun ρ I a w hr => by
  obtain ⟨ρ', I', h1⟩ := hc ρ I a w hr
  exact h.go ρ' I' a w h1
/-- the slots l alone -/
def selT (st : PSt) : List Nat → List (Nat × PV)
  | [] => []
  | t :: r => (t, st.get t) :: selT st r
theorem look_selT (st : PSt) (t : Nat) : ∀ l, look t (selT st l) = st.get t ∨ look t (selT st l) = .junk
  | [] => .inr rfl
  | s :: r => by
    simp only [selT, look]
    cases hb : Nat.beq t s
    · exact look_selT st t r
    · rw [Nat.eq_of_beq_eq_true hb]; exact .inl rfl
theorem can_sel (l : List Nat) : Can N Γ st ⟨selT st l, st.mem⟩ := fun ρ I a w h => ⟨ρ, I, h.fr, h.defers, h.size, fun t => by
  simp only [PSt.get]
  rcases look_selT st t l with e | e
  · rw [e]; exact h.slot t
  · rw [e]; trivial⟩

/-- behind a round -/
def KloopF (N : Nat) (Γ : Fr) (J : Nat → PSt → Prop) (n : Nat) (K : Exit → PSt → Prop) : Exit → PSt → Prop
  | .normal, st => ∃ st', Can N Γ st st' ∧ ∃ n', n' < n ∧ J n' st'
  | e, st => K e st
structure Kloop (N : Nat) (Γ : Fr) (J : Nat → PSt → Prop) (n : Nat) (K : Exit → PSt → Prop) (e : Exit) (st : PSt) : Prop where
  go : KloopF N Γ J n K e st
theorem kloop_ret {J : Nat → PSt → Prop} {n : Nat} (h : K .ret st) : Kloop N Γ J n K .ret st := ⟨h⟩
theorem kloop_exit {J : Nat → PSt → Prop} {n id : Nat} (h : K (.exit id) st) : Kloop N Γ J n K (.exit id) st := ⟨h⟩
theorem kloop_next {J : Nat → PSt → Prop} {n : Nat} {st' : PSt} (n' : Nat) (hc : Can N Γ st st') (hn : n' < n) (h : J n' st') : Kloop N Γ J n K .normal st := ⟨⟨st', hc, n', hn, h⟩⟩
theorem ploop {c : Code} (J : Nat → PSt → Prop) (n0 : Nat) (h0 : J n0 st) (round : ∀ n st, J n st → PWp G N Γ c st (Kloop N Γ J n K)) : PWp G N Γ (.loop c) st K := .mk fun ρ I a w hr => by
  refine wp_loop_ghost (fun n a w => ∃ st ρ I, J n st ∧ Rel N Γ st ρ I a w) n0 ⟨st, ρ, I, h0, hr⟩ ?_
  rintro n a w ⟨st, ρ, I, hJ, hr⟩
  refine wp_mono ((round n st hJ).go ρ I a w hr) fun e a w ⟨h1, st, ρ, I, h2, h3⟩ => ?_
  cases e with
  | normal =>
    obtain ⟨st', hc, n', hn, hJ'⟩ := h2.go
    obtain ⟨ρ', I', hr'⟩ := hc ρ I a w h3
    exact ⟨n', hn, st', ρ', I', hJ', hr'⟩
  | _ => exact ⟨h1, st, ρ, I, h2.go, h3⟩

/-- where ways meet again: what holds there -/
def KcutF (N : Nat) (Γ : Fr) (M : PSt → Prop) (K : Exit → PSt → Prop) : Exit → PSt → Prop
  | .normal, st => ∃ st', Can N Γ st st' ∧ M st'
  | e, st => K e st
structure Kcut (N : Nat) (Γ : Fr) (M : PSt → Prop) (K : Exit → PSt → Prop) (e : Exit) (st : PSt) : Prop where
  go : KcutF N Γ M K e st
theorem kcut {M : PSt → Prop} {st' : PSt} (hc : Can N Γ st st') (h : M st') : Kcut N Γ M K .normal st := ⟨⟨st', hc, h⟩⟩
theorem kcut_ret {M : PSt → Prop} (h : K .ret st) : Kcut N Γ M K .ret st := ⟨h⟩
theorem kcut_exit {M : PSt → Prop} {id : Nat} (h : K (.exit id) st) : Kcut N Γ M K (.exit id) st := ⟨h⟩
theorem pcut {x y : Code} (M : PSt → Prop) (h : PWp G N Γ x st (Kcut N Γ M K)) (hy : ∀ st, M st → PWp G N Γ y st K) : PWp G N Γ x st (Kseq G N Γ y K) := .mk fun ρ I a w hr =>
  wp_mono (h.go ρ I a w hr) fun e a w ⟨h1, st, ρ, I, h2, h3⟩ => by
    cases e with
    | normal =>
      obtain ⟨st', hc, hm⟩ := h2.go
      obtain ⟨ρ', I', hr'⟩ := hc ρ I a w h3
      exact ⟨h1, st', ρ', I', kseq_normal (hy st' hm), hr'⟩
    | _ => exact ⟨h1, st, ρ, I, ⟨h2.go⟩, h3⟩

/-- the operations l of a region, in this order -/
structure POps (G : Pg) (N : Nat) (Γ : Fr) (ops : Array Oper) (l : List Oper) (st : PSt) (K : Exit → PSt → Prop) : Prop where
  go : ∀ ρ I a w, Rel N Γ st ρ I a w → wpList G.P ops (Qf N Γ K) l a w
theorem pregion {id : Nat} {ops : Array Oper} (h : POps G N Γ ops ops.toList st K) : PWp G N Γ (.region id ops false) st K :=
  .mk fun ρ I a w hr => wp_region_list (h.go ρ I a w hr)
theorem pnil {ops : Array Oper} (h : K .normal st) : POps G N Γ ops [] st K := .mk fun ρ I a w hr => ⟨by simp, st, ρ, I, h, hr⟩

variable {ops : Array Oper} {o : Oper} {rest : List Oper} {d : Nat} {r : PV} {pre : Prop}
theorem pop_read (hg : o.guard = none) (hd : o.dst = some d) (hN : Nat.blt d N = true) (hr : pread G.tab st o.op = some (r, pre)) (hp : pre) (h : POps G N Γ ops rest (st.put d r) K) : POps G N Γ ops (o :: rest) st K := .mk fun ρ I a w hrel => by
  obtain ⟨v, hv, hvr⟩ := pread_sound G.ok hrel o hr hp
  have hw : Region.wanted o (yielded ops a.tmps) = true := by simp [Region.wanted, hg]
  simp only [wpList, hw, if_true]
  refine .inl ?_
  simp only [Oper.wp, hv w (SameOn.refl _ _ _ _ _), Oper.upon_value, hd]
  exact h.go ρ I _ w (hrel.put (by rwa [Nat.blt_eq] at hN) hvr)

theorem pk_t {c : Bool} : c = true → (c == true) = true := fun h => by rw [h]; rfl
theorem pk_f {c : Bool} : c = false → (c == false) = true := fun h => by rw [h]; rfl
/-- whether a guarded operation is carried out -/
def gval (ops : Array Oper) (st : PSt) (j : Nat) (want : Bool) : Option Bool :=
  match (ops[j]?).bind (·.dst) with
  | some t => match st.get t with
    | .val (.bool b) => some (b == want)
    | .opt g (.val (.bool b)) => some (g && (b == want))
    | _ => none
  | none => none
theorem gval_sound {j : Nat} {want g : Bool} {ρ : Nat → Loc} {I : Nat → Prop} {a : Act} {w : World} (hrel : Rel N Γ st ρ I a w) (hg : o.guard = some (j, want)) (h : gval ops st j want = some g) : Region.wanted o (yielded ops a.tmps) = g := by
  unfold gval at h
  simp only [Region.wanted, hg, yielded]
  cases ht : (ops[j]?).bind (·.dst) with
  | none => rw [ht] at h; cases h
  | some t =>
    rw [ht] at h
    simp only [Option.bind_some] at h ⊢
    have hs := hrel.slot t
    have hin : ∀ b, a.tmps.getD t undef = .bool b → a.tmps[t]? = some (.bool b) := fun b hb => by
      simp only [Array.getD_eq_getD_getElem?] at hb
      cases he : a.tmps[t]? with
      | none => rw [he] at hb; cases hb
      | some x => rw [he] at hb; simp at hb; rw [hb]
    split at h
    · rename_i b hb
      rw [hb] at hs
      rw [hin b hs]
      simp only [Option.some.injEq] at h
      rw [← h]; cases b <;> cases want <;> rfl
    · rename_i g' b hb
      rw [hb] at hs
      simp only [Option.some.injEq] at h
      cases g'
      · have hu := hs.2 rfl
        rw [← h]
        cases he : a.tmps[t]? with
        | none => rfl
        | some x =>
          simp only [Array.getD_eq_getD_getElem?, he, Option.getD_some] at hu
          subst hu; rfl
      · rw [hin b (hs.1 rfl), ← h]; cases b <;> cases want <;> rfl
    · cases h
theorem strP_pre {p : PV} {c : Prop} (h : strP p c) : c := by
  cases p with
  | opt g q => exact h.2
  | _ => exact h
theorem pop_guard {j : Nat} {want g : Bool} (hg : o.guard = some (j, want)) (hd : o.dst = some d) (hN : Nat.blt d N = true) (hgv : gval ops st j want = some g) (hr : pread G.tab st o.op = some (r, pre)) (hp : g = true → strP r pre) (h : POps G N Γ ops rest (st.put d (.opt g (str r))) K) : POps G N Γ ops (o :: rest) st K := .mk fun ρ I a w hrel => by
  have hw := gval_sound hrel hg hgv
  simp only [wpList, hw]
  cases g
  · simp only [Bool.false_eq_true, if_false, hd]
    exact h.go ρ I _ w (hrel.put (by rwa [Nat.blt_eq] at hN) ⟨by simp, fun _ => rfl⟩)
  · obtain ⟨v, hv, hvr⟩ := pread_sound G.ok hrel o hr (strP_pre (hp rfl))
    have hvr := (str_rel hvr (hp rfl)).1
    refine .inl ?_
    simp only [Oper.wp, hv w (SameOn.refl _ _ _ _ _), Oper.upon_value, hd]
    exact h.go ρ I _ w (hrel.put (by rwa [Nat.blt_eq] at hN) ⟨fun _ => hvr, by simp⟩)
end
end Go.Proofs.YtcghpepighboaaaDoor
