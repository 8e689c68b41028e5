/- Walking by evaluation: straight code in one step. -/
import Derived.Test.YtcefhgomkehokaaGreatB05
set_option linter.unusedSimpArgs false
set_option linter.unusedVariables false
namespace Go.Proofs.YtcefhgomkehokaaGreat
open Go.RowKit
def AllP : List Prop → Prop
  | [] => True
  | p :: ps => p ∧ AllP ps
def isJ : PV → Bool
  | .opt _ .junk => true
  | _ => false
def isNilS : PV → Bool
  | .val (.slice none _ _) => true
  | _ => false
def deadB (st : PSt) : Op → Bool
  | .indexAddr _ x y => isJ (st.ev x) || (isNilS (str (st.ev x)) || isJ (st.ev y))
  | .fieldAddr _ x _ => isJ (st.ev x)
  | .field _ x _ => isJ (st.ev x)
  | .load _ x => isJ (st.ev x)
  | .binOp _ _ x y _ => isJ (st.ev x) || isJ (st.ev y)
  | .unOp _ _ x => isJ (st.ev x)
  | .call c => match c.callee with
    | .builtin _ => c.args.toList.any fun x => isJ (st.ev x)
    | _ => false
  | _ => false
theorem cond_none {α : Type} {b : Bool} {x : Option α} {y : α} (h : (cond b none x) = some y) : b = false ∧ x = some y := by
  cases b
  · exact ⟨rfl, h⟩
  · cases h
def stepOp (tab : List TI) (eqs : List Nat) (k0 N : Nat) (ops : Array Oper) (st : PSt) (o : Oper) : Option (PSt × Prop × List Nat) :=
  match o.guard with
  | none => match o.dst with
    | some d => cond (Nat.blt d N) (match pread tab st o.op with
      | some (r, p) => some (st.put d r, p, [])
      | none => match pread2 tab eqs st o.op with
        | some (r, p) => some (st.put d r, p, [])
        | none => match pnew tab st o.op with
          | some (r, m, p) => some (PSt.put ⟨st.tm, m⟩ d r, p, [])
          | none => match pmake tab st o.op with
            | some (r, m, p) => some (PSt.put ⟨st.tm, m⟩ d r, p, [])
            | none => match papp tab k0 st o.op with
              | some (r, m, p) => some (PSt.put ⟨st.tm, m⟩ d r, p, appL st o.op)
              | none => none) none
    | none => match pstore tab st o.op, stL st o.op with
      | some (m, p), some l => some (⟨st.tm, m⟩, p, [l])
      | _, _ => none
  | some (j, want) => match o.dst with
    | some d => cond (Nat.blt d N) (match gval ops st j want with
      | some g => match pread tab st o.op with
        | some (r, p) => some (st.put d (.opt g (str r)), g = true → strP r p, [])
        | none => match pread2 tab eqs st o.op with
          | some (r, p) => some (st.put d (.opt g r), g = true → p, [])
          | none => cond (deadB st o.op) (cond g none (some (st.put d (.opt false .junk), True, []))) none
      | none => none) none
    | none => none
section
variable {G : Pg2} {N : Nat} {Γ : Fr} {st st' : PSt} {K : Exit → PSt → Prop} {K' : PSt → Prop} {ops : Array Oper} {o : Oper} {rest : List Oper} {d : Nat} {r : PV} {p : Prop} {ch : List Nat}
theorem pop_gfalse {j : Nat} {want : Bool} (hg : o.guard = some (j, want)) (hd : o.dst = some d) (hN : Nat.blt d N = true) (hgv : gval ops st j want = some false) (h : POps G.toPg N Γ ops rest (st.put d (.opt false .junk)) K) : POps G.toPg N Γ ops (o :: rest) st K := .mk fun ρ I a w hrel => by
  have hw := gval_sound hrel hg hgv
  simp only [wpList, hw, Bool.false_eq_true, if_false, hd]
  exact h.go ρ I _ w (hrel.put (by rwa [Nat.blt_eq] at hN) ⟨by simp, fun _ => rfl⟩)
theorem pst_gfalse {j : Nat} {want : Bool} (hg : o.guard = some (j, want)) (hd : o.dst = some d) (hN : Nat.blt d N = true) (hgv : gval ops st j want = some false) (h : K' (st.put d (.opt false .junk))) : PStep G N Γ ops o st [] true K' := .mk fun ρ I a w hrel Q => by
  have hw := gval_sound hrel hg hgv
  rw [if_neg (by rw [hw]; simp)]
  simp only [hd]
  exact ⟨_, ρ, I, h, hrel.put (by rwa [Nat.blt_eq] at hN) ⟨by simp, fun _ => rfl⟩, Chg.refl (Ext.refl w) d _⟩
theorem stepOp_sound (h : stepOp G.tab G.eqs Γ.k0 N ops st o = some (st', p, ch)) (hp : p) (hk : POps G.toPg N Γ ops rest st' K) : POps G.toPg N Γ ops (o :: rest) st K := by
  unfold stepOp at h
  split at h
  · rename_i hg
    split at h
    · rename_i d hd
      obtain ⟨hN, h⟩ := cond_some h
      split at h
      · rename_i hr
        simp only [Option.some.injEq, Prod.mk.injEq] at h
        obtain ⟨rfl, rfl, rfl⟩ := h
        exact pop_read hg hd hN hr hp hk
      · split at h
        · rename_i hr
          simp only [Option.some.injEq, Prod.mk.injEq] at h
          obtain ⟨rfl, rfl, rfl⟩ := h
          exact pop_read2 hg hd hN hr hp hk
        · split at h
          · rename_i hr
            simp only [Option.some.injEq, Prod.mk.injEq] at h
            obtain ⟨rfl, rfl, rfl⟩ := h
            exact pop_new hg hd hN hr hp hk
          · split at h
            · rename_i hr
              simp only [Option.some.injEq, Prod.mk.injEq] at h
              obtain ⟨rfl, rfl, rfl⟩ := h
              exact pop_make hg hd hN hr hp hk
            · split at h
              · rename_i hr
                simp only [Option.some.injEq, Prod.mk.injEq] at h
                obtain ⟨rfl, rfl, rfl⟩ := h
                exact pop_app hg hd hN hr hp hk
              · cases h
    · rename_i hd
      split at h
      · rename_i hr hl
        simp only [Option.some.injEq, Prod.mk.injEq] at h
        obtain ⟨rfl, rfl, rfl⟩ := h
        exact pop_store hg hd hr hp hk
      · cases h
  · rename_i j want hg
    split at h
    · rename_i d hd
      obtain ⟨hN, h⟩ := cond_some h
      split at h
      · rename_i g hgv
        split at h
        · rename_i hr
          simp only [Option.some.injEq, Prod.mk.injEq] at h
          obtain ⟨rfl, rfl, rfl⟩ := h
          exact pop_guard hg hd hN hgv hr hp hk
        · split at h
          · rename_i hr
            simp only [Option.some.injEq, Prod.mk.injEq] at h
            obtain ⟨rfl, rfl, rfl⟩ := h
            exact pop_guard2 hg hd hN hgv hr hp hk
          · obtain ⟨_, h⟩ := cond_some h
            obtain ⟨hg0, h2⟩ := cond_none h
            subst hg0
            simp only [Option.some.injEq, Prod.mk.injEq] at h2
            obtain ⟨rfl, rfl, rfl⟩ := h2
            exact pop_gfalse hg hd hN hgv hk
      · cases h
    · cases h
theorem pst_read2 {pre : Prop} (hg : o.guard = none) (hd : o.dst = some d) (hN : Nat.blt d N = true) (hr : pread2 G.tab G.eqs st o.op = some (r, pre)) (hp : pre) (h : K' (st.put d r)) : PStep G N Γ ops o st [] true K' := .mk fun ρ I a w hrel Q => by
  obtain ⟨v, hv, hvr⟩ := pread2_sound G.ok G.eqsOk hrel o hr hp
  have hw : Region.wanted o (yielded ops a.tmps) = true := by simp [Region.wanted, hg]
  rw [if_pos hw]
  simp only [Oper.wp, hv w (SameOn.refl _ _ _ _ _), Oper.upon_value, hd]
  exact ⟨_, ρ, I, h, hrel.put (by rwa [Nat.blt_eq] at hN) hvr, Chg.refl (Ext.refl w) d r⟩
theorem pst_guard {pre : Prop} {j : Nat} {want g : Bool} (hg : o.guard = some (j, want)) (hd : o.dst = some d) (hN : Nat.blt d N = true) (hgv : gval ops st j want = some g) (hr : pread G.tab st o.op = some (r, pre)) (hp : g = true → strP r pre) (h : K' (st.put d (.opt g (str r)))) : PStep G N Γ ops o st [] true K' := .mk fun ρ I a w hrel Q => by
  have hw := gval_sound hrel hg hgv
  cases g
  · rw [if_neg (by rw [hw]; simp)]
    simp only [hd]
    exact ⟨_, ρ, I, h, hrel.put (by rwa [Nat.blt_eq] at hN) ⟨by simp, fun _ => rfl⟩, Chg.refl (Ext.refl w) d _⟩
  · obtain ⟨v, hv, hvr⟩ := pread_sound G.ok hrel o hr (strP_pre (hp rfl))
    have hvr := (str_rel hvr (hp rfl)).1
    rw [if_pos hw]
    simp only [Oper.wp, hv w (SameOn.refl _ _ _ _ _), Oper.upon_value, hd]
    exact ⟨_, ρ, I, h, hrel.put (by rwa [Nat.blt_eq] at hN) ⟨fun _ => hvr, by simp⟩, Chg.refl (Ext.refl w) d _⟩
theorem pst_guard2 {pre : Prop} {j : Nat} {want g : Bool} (hg : o.guard = some (j, want)) (hd : o.dst = some d) (hN : Nat.blt d N = true) (hgv : gval ops st j want = some g) (hr : pread2 G.tab G.eqs st o.op = some (r, pre)) (hp : g = true → pre) (h : K' (st.put d (.opt g r))) : PStep G N Γ ops o st [] true K' := .mk fun ρ I a w hrel Q => by
  have hw := gval_sound hrel hg hgv
  cases g
  · rw [if_neg (by rw [hw]; simp)]
    simp only [hd]
    exact ⟨_, ρ, I, h, hrel.put (by rwa [Nat.blt_eq] at hN) ⟨by simp, fun _ => rfl⟩, Chg.refl (Ext.refl w) d _⟩
  · obtain ⟨v, hv, hvr⟩ := pread2_sound G.ok G.eqsOk hrel o hr (hp rfl)
    rw [if_pos hw]
    simp only [Oper.wp, hv w (SameOn.refl _ _ _ _ _), Oper.upon_value, hd]
    exact ⟨_, ρ, I, h, hrel.put (by rwa [Nat.blt_eq] at hN) ⟨fun _ => hvr, by simp⟩, Chg.refl (Ext.refl w) d _⟩
theorem stepOp_pst (h : stepOp G.tab G.eqs Γ.k0 N ops st o = some (st', p, ch)) (hp : p) (hk : K' st') : PStep G N Γ ops o st ch true K' := by
  unfold stepOp at h
  split at h
  · rename_i hg
    split at h
    · rename_i d hd
      obtain ⟨hN, h⟩ := cond_some h
      split at h
      · rename_i hr
        simp only [Option.some.injEq, Prod.mk.injEq] at h
        obtain ⟨rfl, rfl, rfl⟩ := h
        exact pst_read hg hd hN hr hp hk
      · split at h
        · rename_i hr
          simp only [Option.some.injEq, Prod.mk.injEq] at h
          obtain ⟨rfl, rfl, rfl⟩ := h
          exact pst_read2 hg hd hN hr hp hk
        · split at h
          · rename_i hr
            simp only [Option.some.injEq, Prod.mk.injEq] at h
            obtain ⟨rfl, rfl, rfl⟩ := h
            exact pst_new hg hd hN hr hp hk
          · split at h
            · rename_i hr
              simp only [Option.some.injEq, Prod.mk.injEq] at h
              obtain ⟨rfl, rfl, rfl⟩ := h
              exact pst_make hg hd hN hr hp hk
            · split at h
              · rename_i hr
                simp only [Option.some.injEq, Prod.mk.injEq] at h
                obtain ⟨rfl, rfl, rfl⟩ := h
                exact pst_app hg hd hN hr hp rfl hk
              · cases h
    · rename_i hd
      split at h
      · rename_i hr hl
        simp only [Option.some.injEq, Prod.mk.injEq] at h
        obtain ⟨rfl, rfl, rfl⟩ := h
        exact pst_store hg hd hr hl hp hk
      · cases h
  · rename_i j want hg
    split at h
    · rename_i d hd
      obtain ⟨hN, h⟩ := cond_some h
      split at h
      · rename_i g hgv
        split at h
        · rename_i hr
          simp only [Option.some.injEq, Prod.mk.injEq] at h
          obtain ⟨rfl, rfl, rfl⟩ := h
          exact pst_guard hg hd hN hgv hr hp hk
        · split at h
          · rename_i hr
            simp only [Option.some.injEq, Prod.mk.injEq] at h
            obtain ⟨rfl, rfl, rfl⟩ := h
            exact pst_guard2 hg hd hN hgv hr hp hk
          · obtain ⟨_, h⟩ := cond_some h
            obtain ⟨hg0, h2⟩ := cond_none h
            subst hg0
            simp only [Option.some.injEq, Prod.mk.injEq] at h2
            obtain ⟨rfl, rfl, rfl⟩ := h2
            exact pst_gfalse hg hd hN hgv hk
      · cases h
    · cases h
end
inductive Fm where
  | seq (c : Code)
  | blk (id : Nat)
inductive Ctl where
  | code (c : Code)
  | ops (ops : Array Oper) (l : List Oper)
  | ex (e : Exit)
def stk (G : Pg2) (N : Nat) (Γ : Fr) (K : Exit → PSt → Prop) : List Fm → Exit → PSt → Prop
  | [] => K
  | .seq c :: s => Kseq G.toPg N Γ c (stk G N Γ K s)
  | .blk id :: s => Kblock id (stk G N Γ K s)
def PX (G : Pg2) (N : Nat) (Γ : Fr) (K : Exit → PSt → Prop) (c : Ctl) (st : PSt) (s : List Fm) : Prop :=
  match c with
  | .code c => PWp G.toPg N Γ c st (stk G N Γ K s)
  | .ops ops l => POps G.toPg N Γ ops l st (stk G N Γ K s)
  | .ex e => stk G N Γ K s e st
def exec (tab : List TI) (eqs : List Nat) (k0 N : Nat) : Nat → Bool → Ctl → PSt → List Fm → List Prop → Option (Ctl × PSt × List Fm × List Prop)
  | 0, mv, c, st, s, ps => cond mv (some (c, st, s, ps)) none
  | n + 1, mv, c, st, s, ps => match c with
    | .code c => match c with
      | .skip => exec tab eqs k0 N n true (.ex .normal) st s ps
      | .exit id => exec tab eqs k0 N n true (.ex (.exit id)) st s ps
      | .ret => exec tab eqs k0 N n true (.ex .ret) st s ps
      | .seq x y => exec tab eqs k0 N n true (.code x) st (.seq y :: s) ps
      | .block id x => exec tab eqs k0 N n true (.code x) st (.blk id :: s) ps
      | .region id ops b => match b with
        | false => exec tab eqs k0 N n true (.ops ops ops.toList) st s ps
        | true => cond mv (some (.code (.region id ops true), st, s, ps)) none
      | c => cond mv (some (.code c, st, s, ps)) none
    | .ops ops l => match l with
      | [] => exec tab eqs k0 N n true (.ex .normal) st s ps
      | o :: l => match stepOp tab eqs k0 N ops st o with
        | some (st', p, _) => exec tab eqs k0 N n true (.ops ops l) st' s (p :: ps)
        | none => cond mv (some (.ops ops (o :: l), st, s, ps)) none
    | .ex e => match s with
      | [] => cond mv (some (.ex e, st, [], ps)) none
      | .seq c :: s => match e with
        | .normal => exec tab eqs k0 N n true (.code c) st s ps
        | e => exec tab eqs k0 N n true (.ex e) st s ps
      | .blk id :: s => match e with
        | .exit i => cond (Nat.beq i id) (exec tab eqs k0 N n true (.ex .normal) st s ps) (exec tab eqs k0 N n true (.ex (.exit i)) st s ps)
        | e => exec tab eqs k0 N n true (.ex e) st s ps
section
variable {G : Pg2} {N : Nat} {Γ : Fr} {K : Exit → PSt → Prop}
theorem exec_sound : ∀ (n : Nat) (mv : Bool) (c : Ctl) (st : PSt) (s : List Fm) (ps : List Prop) (c' : Ctl) (st' : PSt) (s' : List Fm) (ps' : List Prop),
    exec G.tab G.eqs Γ.k0 N n mv c st s ps = some (c', st', s', ps') → AllP ps' → AllP ps ∧ (PX G N Γ K c' st' s' → PX G N Γ K c st s) := by
  have stop : ∀ {mv : Bool} {c c' : Ctl} {st st' : PSt} {s s' : List Fm} {ps ps' : List Prop}, cond mv (some (c, st, s, ps)) none = some (c', st', s', ps') → AllP ps' → AllP ps ∧ (PX G N Γ K c' st' s' → PX G N Γ K c st s) := fun h hp => by
    obtain ⟨_, h⟩ := cond_some h
    simp only [Option.some.injEq, Prod.mk.injEq] at h
    obtain ⟨rfl, rfl, rfl, rfl⟩ := h
    exact ⟨hp, id⟩
  intro n
  induction n with
  | zero => intro mv c st s ps c' st' s' ps' h hp; rw [exec] at h; exact stop h hp
  | succ n ih =>
    intro mv c st s ps c' st' s' ps' h hp
    cases c with
    | code c =>
      cases c with
      | skip => rw [exec] at h; obtain ⟨h1, h2⟩ := ih _ _ _ _ _ _ _ _ _ h hp; exact ⟨h1, fun k => pskip (h2 k)⟩
      | exit id => rw [exec] at h; obtain ⟨h1, h2⟩ := ih _ _ _ _ _ _ _ _ _ h hp; exact ⟨h1, fun k => pexit (h2 k)⟩
      | ret => rw [exec] at h; obtain ⟨h1, h2⟩ := ih _ _ _ _ _ _ _ _ _ h hp; exact ⟨h1, fun k => pret (h2 k)⟩
      | seq x y => rw [exec] at h; obtain ⟨h1, h2⟩ := ih _ _ _ _ _ _ _ _ _ h hp; exact ⟨h1, fun k => pseq (h2 k)⟩
      | block id x => rw [exec] at h; obtain ⟨h1, h2⟩ := ih _ _ _ _ _ _ _ _ _ h hp; exact ⟨h1, fun k => pblock (h2 k)⟩
      | region id ops b =>
        cases b
        · rw [exec] at h; obtain ⟨h1, h2⟩ := ih _ _ _ _ _ _ _ _ _ h hp; exact ⟨h1, fun k => pregion (h2 k)⟩
        · rw [exec] at h; exact stop h hp
      | _ => exact stop h hp
    | ops ops l =>
      cases l with
      | nil => rw [exec] at h; obtain ⟨h1, h2⟩ := ih _ _ _ _ _ _ _ _ _ h hp; exact ⟨h1, fun k => pnil (h2 k)⟩
      | cons o l =>
        rw [exec] at h
        split at h
        · rename_i st1 p ch hs
          obtain ⟨h1, h2⟩ := ih _ _ _ _ _ _ _ _ _ h hp
          exact ⟨h1.2, fun k => stepOp_sound hs h1.1 (h2 k)⟩
        · exact stop h hp
    | ex e =>
      cases s with
      | nil => rw [exec] at h; exact stop h hp
      | cons f s =>
        cases f with
        | seq c =>
          cases e with
          | normal => rw [exec] at h; obtain ⟨h1, h2⟩ := ih _ _ _ _ _ _ _ _ _ h hp; exact ⟨h1, fun k => kseq_normal (h2 k)⟩
          | _ => obtain ⟨h1, h2⟩ := ih _ _ _ _ _ _ _ _ _ h hp; exact ⟨h1, fun k => ⟨h2 k⟩⟩
        | blk id =>
          cases e with
          | exit i =>
            rw [exec] at h
            cases hb : Nat.beq i id
            · rw [hb] at h
              obtain ⟨h1, h2⟩ := ih _ _ _ _ _ _ _ _ _ h hp
              exact ⟨h1, fun k => kblock_miss hb (h2 k)⟩
            · rw [hb] at h
              obtain ⟨h1, h2⟩ := ih _ _ _ _ _ _ _ _ _ h hp
              exact ⟨h1, fun k => kblock_hit hb (h2 k)⟩
          | _ => obtain ⟨h1, h2⟩ := ih _ _ _ _ _ _ _ _ _ h hp; exact ⟨h1, fun k => ⟨h2 k⟩⟩
variable {c : Code} {ops : Array Oper} {l : List Oper} {e : Exit} {st st' : PSt} {s s' : List Fm} {ps : List Prop} {c' : Ctl}
theorem xw (n : Nat) (h : exec G.tab G.eqs Γ.k0 N n false (.code c) st s [] = some (c', st', s', ps)) (hp : AllP ps) (hk : PX G N Γ K c' st' s') : PWp G.toPg N Γ c st (stk G N Γ K s) := (exec_sound n _ _ _ _ _ _ _ _ _ h hp).2 hk
theorem xw0 (n : Nat) (h : exec G.tab G.eqs Γ.k0 N n false (.code c) st [] [] = some (c', st', s', ps)) (hp : AllP ps) (hk : PX G N Γ K c' st' s') : PWp G.toPg N Γ c st K := (exec_sound (K := K) n _ _ _ _ _ _ _ _ _ h hp).2 hk
theorem xo (n : Nat) (h : exec G.tab G.eqs Γ.k0 N n false (.ops ops l) st s [] = some (c', st', s', ps)) (hp : AllP ps) (hk : PX G N Γ K c' st' s') : POps G.toPg N Γ ops l st (stk G N Γ K s) := (exec_sound n _ _ _ _ _ _ _ _ _ h hp).2 hk
theorem xo0 (n : Nat) (h : exec G.tab G.eqs Γ.k0 N n false (.ops ops l) st [] [] = some (c', st', s', ps)) (hp : AllP ps) (hk : PX G N Γ K c' st' s') : POps G.toPg N Γ ops l st K := (exec_sound (K := K) n _ _ _ _ _ _ _ _ _ h hp).2 hk
theorem xk (n : Nat) (h : exec G.tab G.eqs Γ.k0 N n false (.ex e) st s [] = some (c', st', s', ps)) (hp : AllP ps) (hk : PX G N Γ K c' st' s') : stk G N Γ K s e st := (exec_sound n _ _ _ _ _ _ _ _ _ h hp).2 hk
end
end Go.Proofs.YtcefhgomkehokaaGreat
namespace Go.Proofs.YtcefhgomkehokaaGreat
open Go.RowKit
section
variable {P : Program} {ops : Array Oper} {Q : Exit → Act → World → Prop} {S : World → Prop}
def YC (P : Program) (ops : Array Oper) (S : World → Prop) (o : Oper) (v : Value) (a : Act) : Prop :=
  (Region.wanted o (yielded ops a.tmps) = true ∧ ∀ w, S w → (execOp a.eval o).run P w = .ok (.value v) w ∨ ∃ f args, (execOp a.eval o).run P w = .ok (.enter f args) w ∧ Calls P f args w fun e w' => e = .returned v ∧ Ext w w') ∨
  (Region.wanted o (yielded ops a.tmps) = false ∧ v = undef)
theorem YC.wpOp {i : Nat} {o : Oper} {v : Value} {a : Act} (hi : ops[i]? = some o) (hy : YC P ops S o v a) {K : Act → World → Prop} {w : World} (hS : S w) (h : ∀ w', Ext w w' → K (a.put o.dst v) w') : wpOp P ops Q i K a w := by
  unfold Go.wpOp
  simp only [hi]
  rcases hy with ⟨hw, hv⟩ | ⟨hw, rfl⟩
  · simp only [hw, if_true]
    refine .inl ?_
    rcases hv w hS with hv | ⟨f, args, hv, hc⟩
    · simp only [Oper.wp, hv, Oper.upon]; exact h w (Ext.refl w)
    · simp only [Oper.wp, hv, Oper.upon_enter]
      refine hc.mono ?_
      rintro e w' ⟨rfl, hx⟩
      exact h w' hx
  · simp only [hw, Bool.false_eq_true, if_false]; exact h w (Ext.refl w)
theorem YC.of_same {o : Oper} {v : Value} {a a' : Act} (hy : YC P ops S o v a) (he : execOp a'.eval o = execOp a.eval o) (hw : Region.wanted o (yielded ops a'.tmps) = Region.wanted o (yielded ops a.tmps)) : YC P ops S o v a' := by
  unfold YC at *
  rw [he, hw]
  exact hy
theorem wpOp_putC {j : Nat} {oi oj : Oper} {v : Value} (hj : ops[j]? = some oj) (hap : oi.apart ops oj = true)
    (hsi : ∀ cs b, oi.op ≠ .select cs b) (hsj : ∀ cs b, oj.op ≠ .select cs b)
    (hQ : ∀ c a w, Q (.panic c) (a.put oi.dst v) w → Q (.panic c) a w) {K : Act → World → Prop} {a : Act} {w : World}
    (hy : YC P ops S oi v a) (h : wpOp P ops Q j K (a.put oi.dst v) w) :
    wpOp P ops Q j (fun a' w' => YC P ops S oi v a' ∧ K (a'.put oi.dst v) w') a w := by
  obtain ⟨h1, h2, h3⟩ := Oper.apart_spec hap
  have keep : ∀ (a : Act), YC P ops S oi v a → ∀ u, YC P ops S oi v (a.put oj.dst u) := fun a hy u =>
    hy.of_same (execOp_put oi hsi a oj.dst u h3) (wanted_put oi a oj.dst u h3)
  have keepD : ∀ d, YC P ops S oi v { a with defers := d :: a.defers } := fun d => hy.of_same rfl rfl
  unfold wpOp at *
  simp only [hj] at *
  rw [wanted_put oj a oi.dst v h1] at h
  split
  · rename_i hw
    simp only [hw, if_true] at h
    rcases h with h | ⟨hasks, hlets⟩
    case inr => exact .inr ⟨by unfold Oper.asks at *; rw [execOp_put oj hsj a oi.dst v h1] at hasks; exact hasks, hlets⟩
    refine .inl ?_
    unfold Oper.wp at *
    rw [execOp_put oj hsj a oi.dst v h1] at h
    generalize (execOp a.eval oj).run P w = r at *
    cases r with
    | ok n w' =>
      cases n <;> simp only [Oper.upon] at h ⊢
      case value u => exact ⟨keep a hy u, by rw [← Act.put_comm a v u h2]; exact h⟩
      case skip => exact ⟨keep a hy _, by rw [← Act.put_comm a v undef h2]; exact h⟩
      case defer d =>
        refine ⟨keep _ (keepD d) _, ?_⟩
        rw [← Act.put_comm _ v undef h2, ← Act.put_defers]
        exact h
      case enter f args =>
        refine Calls.mono h fun e w'' he => ?_
        cases e with
        | returned u => exact ⟨keep a hy u, by rw [← Act.put_comm a v u h2]; exact he⟩
        | panicked c => exact hQ _ _ _ he
        | outgrown => exact he
      case row row args => exact Rows.mono h fun u w'' he => ⟨keep a hy u, by rw [← Act.put_comm a v u h2]; exact he⟩
    | halt x w' =>
      cases x <;> simp only [Oper.upon] at h ⊢
      case panic u => exact hQ _ _ _ h
  · rename_i hw
    simp only [hw] at h
    exact ⟨keep a hy _, by rw [← Act.put_comm a v undef h2]; exact h⟩
def opAt : List Oper → Nat → Option Oper
  | [], _ => none
  | o :: _, 0 => some o
  | _ :: l, n + 1 => opAt l n
theorem opAt_get : ∀ (l : List Oper) (i : Nat), opAt l i = l[i]?
  | [], _ => rfl
  | _ :: _, 0 => rfl
  | _ :: l, n + 1 => by rw [opAt, opAt_get l n]; rfl
theorem opAt_ops {ops : Array Oper} {i : Nat} {o : Oper} (h : opAt ops.toList i = some o) : ops[i]? = some o := by
  rw [opAt_get] at h; simpa using h
def aftB (k : Nat) : List Edge → Bool
  | [] => false
  | e :: l => cond (Region.binds .any e) (cond (Nat.beq e.on k) true (aftB k l)) (aftB k l)
theorem aftB_spec {k : Nat} : ∀ {l : List Edge}, aftB k l = true → ∃ e ∈ l, Region.binds .any e = true ∧ e.on = k
  | [], h => by cases h
  | e :: l, h => by
    unfold aftB at h
    cases h1 : Region.binds .any e
    · rw [h1] at h; obtain ⟨x, a, b⟩ := aftB_spec (l := l) h; exact ⟨x, List.mem_cons_of_mem _ a, b⟩
    · rw [h1, cond_true] at h
      cases h2 : Nat.beq e.on k
      · rw [h2] at h; obtain ⟨x, a, b⟩ := aftB_spec (l := l) h; exact ⟨x, List.mem_cons_of_mem _ a, b⟩
      · exact ⟨e, List.mem_cons_self .., h1, Nat.eq_of_beq_eq_true h2⟩
def allAft (es : List Edge) (i : Nat) : Nat → Bool
  | 0 => true
  | n + 1 => cond (Nat.beq n i) (allAft es i n) (cond (aftB n es) (allAft es i n) false)
theorem allAft_spec {es : List Edge} {i : Nat} : ∀ (n : Nat), allAft es i n = true → ∀ k, k < n → k ≠ i → aftB k es = true
  | 0, _, k, hk, _ => absurd hk (Nat.not_lt_zero _)
  | n + 1, h, k, hk, hne => by
    unfold allAft at h
    cases h1 : Nat.beq n i
    · rw [h1, cond_false] at h
      cases h2 : aftB n es
      · rw [h2] at h; cases h
      · rw [h2, cond_true] at h
        rcases Nat.lt_or_ge k n with hl | hl
        · exact allAft_spec n h k hl hne
        · rw [show k = n by omega]; exact h2
    · rw [h1, cond_true] at h
      have := Nat.eq_of_beq_eq_true h1
      exact allAft_spec n h k (by omega) hne
def lastB (ops : Array Oper) (i : Nat) : Bool :=
  match opAt ops.toList i with
  | some o => allAft o.after.toList i ops.toList.length
  | none => false
theorem lastB_spec {ops : Array Oper} {i k : Nat} {o : Oper} (hi : ops[i]? = some o) (h : lastB ops i = true) (hk : k < ops.size) (hne : k ≠ i) : ∃ e ∈ o.after, Region.binds .any e = true ∧ e.on = k := by
  unfold lastB at h
  rw [opAt_get, Array.getElem?_toList, hi] at h
  obtain ⟨e, h1, h2, h3⟩ := aftB_spec (allAft_spec _ h k (by simpa using hk) hne)
  exact ⟨e, by simpa using h1, h2, h3⟩
def wpAnyE (P : Program) (ops : Array Oper) (Q : Exit → Act → World → Prop) (S : World → Prop) : Nat → Array Bool → Act → World → Prop
  | 0, listed, a, w => Region.ready .any ops listed = [] ∧ Q .normal a w
  | fuel + 1, listed, a, w =>
    (Region.ready .any ops listed = [] → Q .normal a w) ∧
    ∀ i ∈ Region.ready .any ops listed, wpOp P ops Q i (fun a' w' => ∀ w'', Ext w' w'' → (lastB ops i = false → S w'') ∧ wpAnyE P ops Q S fuel (listed.setIfInBounds i true) a' w'') a w
theorem wpAnyE_held : ∀ (fuel : Nat) (listed : Array Bool) (a : Act) (w : World), wpAnyE P ops Q S fuel listed a w → wpAnyH P .any ops Q (fun _ => True) fuel listed a w
  | 0, _, _, _, h => h
  | fuel + 1, _, _, _, h => ⟨h.1, fun i hi => wpOp_mono (fun a' w' h' => ⟨trivial, wpAnyE_held fuel _ a' w' (h' w' (Ext.refl w')).2⟩) (h.2 i hi)⟩
theorem wpAnyE_first {i : Nat} {oi : Oper} {v : Value} (hi : ops[i]? = some oi) (hsel : ∀ (j : Nat) (o : Oper) cs b, ops[j]? = some o → o.op ≠ .select cs b)
    (hQ : ∀ c a w, Q (.panic c) (a.put oi.dst v) w → Q (.panic c) a w) (hSx : ∀ w w', S w → Ext w w' → S w') :
    ∀ (fuel : Nat) (listed : Array Bool) (a : Act) (w : World),
      (∀ j oj, ops[j]? = some oj → j ≠ i → listed.getD j true = false → (∀ e ∈ oj.after, Region.binds .any e = true → e.on ≠ i) → oi.apart ops oj = true) →
      i ∈ Region.ready .any ops listed → YC P ops S oi v a → S w →
      (∀ w', Ext w w' → wpAnyE P ops Q S fuel (listed.setIfInBounds i true) (a.put oi.dst v) w') → wpAnyE P ops Q S (fuel + 1) listed a w := by
  intro fuel
  induction fuel with
  | zero =>
    intro listed a w _ hr hy hS H
    refine ⟨fun h => (by rw [h] at hr; cases hr), fun j hj => ?_⟩
    by_cases hji : j = i
    · subst hji; exact hy.wpOp hi hS fun w' hx w'' hx2 => ⟨fun _ => hSx _ _ hS (hx.trans hx2), H w'' (hx.trans hx2)⟩
    · have := ready_mono hj hji
      rw [(H w (Ext.refl w)).1] at this
      cases this
  | succ fuel ih =>
    intro listed a w hfree hr hy hS H
    refine ⟨fun h => (by rw [h] at hr; cases hr), fun j hj => ?_⟩
    by_cases hji : j = i
    · subst hji; exact hy.wpOp hi hS fun w' hx w'' hx2 => ⟨fun _ => hSx _ _ hS (hx.trans hx2), H w'' (hx.trans hx2)⟩
    · have h1 := (H w (Ext.refl w)).2 j (ready_mono hj hji)
      obtain ⟨hjun, oj, hoj, hall⟩ := mem_ready.1 hj
      have hnot : ∀ e ∈ oj.after, Region.binds .any e = true → e.on ≠ i := fun e he hb heq => by
        have h1 := hall e he hb
        have h0 := (mem_ready.1 hr).1
        rw [heq] at h1
        rcases Nat.lt_or_ge i listed.size with h' | h'
        · simp [h'] at h0 h1; rw [h0] at h1; cases h1
        · simp [Array.getElem?_eq_none h'] at h1
      have h2 := wpOp_putC hoj (hfree j oj hoj hji hjun hnot) (fun cs b => hsel i oi cs b hi) (fun cs b => hsel j oj cs b hoj) hQ hy h1
      have hfree' : ∀ k ok, ops[k]? = some ok → k ≠ i → (listed.setIfInBounds j true).getD k true = false →
          (∀ e ∈ ok.after, Region.binds .any e = true → e.on ≠ i) → oi.apart ops ok = true := fun k ok hk hki hun hno => by
        refine hfree k ok hk hki ?_ hno
        by_cases hjk : j = k
        · subst hjk; exact hjun
        · rw [getD_set_ne true hjk] at hun; exact hun
      have hlast : lastB ops j = false := by
        cases hb : lastB ops j
        · rfl
        · obtain ⟨e, he, hb1, hb2⟩ := lastB_spec (k := i) hoj hb (by
            by_cases hlt : i < ops.size
            · exact hlt
            · rw [Array.getElem?_eq_none (by omega)] at hi; cases hi) (Ne.symm hji)
          exact absurd hb2 (hnot e he hb1)
      refine wpOp_mono (fun a' w' h3 => fun w'' hx => ⟨fun _ => (h3.2 w'' hx).1 hlast, ih (listed.setIfInBounds j true) a' w'' hfree' (ready_mono hr (Ne.symm hji)) h3.1 ((h3.2 w'' hx).1 hlast) ?_⟩) h2
      intro w3 hx3
      rw [Array.setIfInBounds_comm _ _ hji]
      exact (h3.2 w3 (hx.trans hx3)).2
end
def SHB (HB : Nat → Prop) (w1 w : World) : Prop := ∀ b, HB b → b < w.heap.size ∧ w.heap[b]? = w1.heap[b]?
theorem SHB.ext {HB : Nat → Prop} {w1 w w' : World} (h : SHB HB w1 w) (hx : Ext w w') : SHB HB w1 w' := fun b hb => by
  obtain ⟨h1, h2⟩ := h b hb
  exact ⟨Nat.lt_of_lt_of_le h1 hx.size, by rw [hx.block b h1]; exact h2⟩
structure PE (G : Pg2) (N : Nat) (Γ : Fr) (ops : Array Oper) (H : List Nat) (ni : Bool) (fuel : Nat) (listed : Array Bool) (st : PSt) (K : Exit → PSt → Prop) : Prop where
  go : ∀ (HB : Nat → Prop) (w1 : World) ρ I a w, Rel N Γ st ρ I a w → AnyInv HB w1 H ni st ρ I w → wpAnyE G.P ops (Qf N Γ K) (SHB HB w1) fuel listed a w
def one1 : PV → Bool
  | .val x => x.oneCell'
  | _ => false
def det1 : PV → Bool
  | .val _ => true
  | .agg n f => allB n fun i => one1 (f i)
  | _ => false
def detB : PV → Bool
  | .val _ => true
  | .agg n f => allB n fun i => one1 (f i)
  | .tup n f => allB n fun i => det1 (f i)
  | _ => false
def valP : PV → Value
  | .val x => x
  | _ => undef
def detA (n : Nat) (f : Nat → PV) : Value := .agg ((List.range n).map fun i => valP (f i)).toArray
def detC : PV → Value
  | .val x => x
  | .agg n f => detA n f
  | _ => undef
def detV : PV → Value
  | .val x => x
  | .agg n f => detA n f
  | .tup n f => .tuple ((List.range n).map fun i => detC (f i)).toArray
  | _ => undef
theorem toArr {α : Type} {vs : Array α} {n : Nat} {g : Nat → α} {d : α} (hs : vs.size = n) (h : ∀ i, i < n → vs.getD i d = g i) : vs = ((List.range n).map g).toArray := by
  apply Array.ext
  · simp [hs]
  · intro i h1 h2
    have := h i (by omega)
    simp [Array.getD_eq_getD_getElem?, h1] at this
    simp [this]
theorem getD_rng {α : Type} {n i : Nat} {g : Nat → α} {d : α} (h : i < n) : (((List.range n).map g).toArray).getD i d = g i := by
  simp [Array.getD_eq_getD_getElem?, h]
section
variable {k : Nat} {ρ : Nat → Loc} {I : Nat → Prop} {w : World}
theorem detA_eq {n : Nat} {f : Nat → PV} {v : Value} (h : allB n (fun i => one1 (f i)) = true) (hv : VRel k ρ I w (.agg n f) v) : v = detA n f := by
  obtain ⟨vs, rfl, hs, hx⟩ := hv
  have := toArr (d := undef) (g := fun i => valP (f i)) hs (fun i hi => by
    have hb := allB_spec n _ h i hi
    have := (hx i hi).2
    cases hf : f i <;> rw [hf] at hb this <;> first | exact this | cases hb)
  rw [this]; rfl
theorem detA_rel {n : Nat} {f : Nat → PV} (h : allB n (fun i => one1 (f i)) = true) : VRel k ρ I w (.agg n f) (detA n f) := by
  refine ⟨_, rfl, by simp, fun i hi => ?_⟩
  rw [getD_rng hi]
  have hb := allB_spec n _ h i hi
  cases hf : f i <;> rw [hf] at hb <;> first | exact ⟨hb, rfl⟩ | cases hb
theorem det_eq {p : PV} {v : Value} (h : detB p = true) (hv : VRel k ρ I w p v) : v = detV p := by
  cases p with
  | val x => exact hv
  | agg n f => exact detA_eq h hv
  | tup n f =>
    obtain ⟨vs, rfl, hs, hx⟩ := hv
    have := toArr (d := undef) (g := fun i => detC (f i)) hs (fun i hi => by
      have hb := allB_spec n _ h i hi
      have := hx i hi
      cases hf : f i <;> rw [hf] at hb this <;> first | exact this | exact detA_eq hb this | cases hb)
    rw [this]; rfl
  | _ => cases h
theorem det_rel {p : PV} (h : detB p = true) : VRel k ρ I w p (detV p) := by
  cases p with
  | val x => rfl
  | agg n f => exact detA_rel h
  | tup n f =>
    refine ⟨_, rfl, by simp, fun i hi => ?_⟩
    rw [getD_rng hi]
    have hb := allB_spec n _ h i hi
    cases hf : f i <;> rw [hf] at hb <;> first | rfl | exact detA_rel hb | cases hb
  | _ => cases h
end
theorem VRel.held {ρ ρ' : Nat → Loc} {I : Nat → Prop} {w w' : World} (ht : ∀ b, I b → w'.heap[b]? = w.heap[b]?) :
    ∀ (p : PV) (k k' : Nat) (v : Value), (k = 0 ∨ Cl p) → VRel k ρ I w p v → VRel k' ρ' I w' p v := by
  intro p
  induction p with
  | junk => intro k k' v _ _; trivial
  | val x => intro k k' v _ h; exact h
  | agg n f ih => rintro k k' v hc ⟨vs, h1, h2, h3⟩; exact ⟨vs, h1, h2, fun i hi => ⟨(h3 i hi).1, ih i k k' _ (hc.imp id fun hc => hc i hi) (h3 i hi).2⟩⟩
  | tup n f ih => rintro k k' v hc ⟨vs, h1, h2, h3⟩; exact ⟨vs, h1, h2, fun i hi => ih i k k' _ (hc.imp id fun hc => hc i hi) (h3 i hi)⟩
  | ptr l i j =>
    rintro k k' v hc ⟨h1, _⟩
    rcases hc with rfl | hc
    · omega
    · exact hc.elim
  | lsl l i n =>
    rintro k k' v hc ⟨h1, _⟩
    rcases hc with rfl | hc
    · omega
    · exact hc.elim
  | vsl n sz f ih =>
    rintro k k' v _ ⟨a, cap, h1, h2, h3⟩
    refine ⟨a, cap, h1, h2, h3.imp id ?_⟩
    rintro ⟨b, o, e, hb, h4⟩
    refine ⟨b, o, e, hb, fun i hi j hj => ?_⟩
    obtain ⟨u, h5, h7, h6⟩ := h4 i hi j hj
    exact ⟨u, by rw [World.cell?_of_block (w := w) (ht b hb)]; exact h5, h7, ih i j 0 0 _ (.inl rfl) h6⟩
  | vptr n sz f i j ih =>
    rintro k k' v _ ⟨b, o, e, hb, h4⟩
    refine ⟨b, o, e, hb, fun i hi j hj => ?_⟩
    obtain ⟨u, h5, h7, h6⟩ := h4 i hi j hj
    exact ⟨u, by rw [World.cell?_of_block (w := w) (ht b hb)]; exact h5, h7, ih i j 0 0 _ (.inl rfl) h6⟩
  | opt b p ih => rintro k k' v hc ⟨h1, h2⟩; exact ⟨fun hb => ih k k' _ hc (h1 hb), h2⟩
  | clo f n c ih => rintro k k' v hc ⟨vs, h1, h2, h3⟩; exact ⟨vs, h1, h2, fun i hi => ih i k k' _ (hc.imp id fun hc => hc i hi) (h3 i hi)⟩
  | csl n sz f ih =>
    rintro k k' v _ ⟨a, h1, h3⟩
    refine ⟨a, h1, h3.imp id ?_⟩
    rintro ⟨b, o, e, hb, h4⟩
    refine ⟨b, o, e, hb, fun i hi j hj => ?_⟩
    obtain ⟨u, h5, h7, h6⟩ := h4 i hi j hj
    exact ⟨u, by rw [World.cell?_of_block (w := w) (ht b hb)]; exact h5, h7, ih i j 0 0 _ (.inl rfl) h6⟩
  | vmap c ih =>
    rintro k k' v _ ⟨b, es, clock, h1, h2, h3, h4, h5⟩
    exact ⟨b, es, clock, h1, h2, by rw [ht b h2]; exact h3, h4, ih 0 0 _ (.inl rfl) h5⟩
  | mref l =>
    rintro k k' v hc ⟨h1, _⟩
    rcases hc with rfl | hc
    · omega
    · exact hc.elim
section
variable {G : Pg2} {N : Nat} {Γ : Fr} {st st' : PSt} {K : Exit → PSt → Prop} {ops : Array Oper} {o : Oper} {d : Nat} {r : PV} {p : Prop} {H : List Nat} {ni : Bool} {fuel : Nat} {listed : Array Bool}
theorem AnyInv.ext {HB : Nat → Prop} {w1 : World} {ρ : Nat → Loc} {I : Nat → Prop} {w w' : World} (h : AnyInv HB w1 H ni st ρ I w) (hx : Ext w w') : AnyInv HB w1 H ni st ρ I w' :=
  ⟨fun b hb => by rw [hx.block b (h.lt b hb)]; exact h.same b hb, fun b hb => Nat.lt_of_lt_of_le (h.lt b hb) hx.size, h.held, h.free, h.imm⟩
theorem AnyInv.shb {HB : Nat → Prop} {w1 : World} {ρ : Nat → Loc} {I : Nat → Prop} {w : World} (h : AnyInv HB w1 H ni st ρ I w) : SHB HB w1 w := fun b hb => ⟨h.lt b hb, h.same b hb⟩
theorem pe_first (i : Nat) (hi : ops[i]? = some o) (hs : Region.noSelect ops = true) (hf : Region.free .any ops listed i = true) (hready : (Region.ready .any ops listed).contains i = true) (hd : o.dst = some d) (hN : Nat.blt d N = true)
    (hy : ∀ (HB : Nat → Prop) (w1 : World) ρ I a w, Rel N Γ st ρ I a w → AnyInv HB w1 H ni st ρ I w → ∃ v, YC G.P ops (SHB HB w1) o v a ∧ VRel st.mem.length ρ I w r v)
    (h : PE G N Γ ops H ni fuel (listed.setIfInBounds i true) (st.put d r) K) : PE G N Γ ops H ni (fuel + 1) listed st K := .mk fun HB w1 ρ I a w hrel hinv => by
  obtain ⟨v, hv, hvr⟩ := hy HB w1 ρ I a w hrel hinv
  refine wpAnyE_first hi (Region.noSelect_spec hs) hQ_any (fun _ _ h hx => h.ext hx) fuel listed a w (Region.free_spec hi hf) (by simpa using hready) hv hinv.shb fun w' hx => ?_
  have hrel' := (hrel.put (by rwa [Nat.blt_eq] at hN) hvr).ext hx (I' := I) (fun _ h => h) (fun _ h => .inl h)
  simp only [hd]
  exact h.go HB w1 ρ I _ w' hrel' ((hinv.put d r).ext hx)
def takeOp (tab : List TI) (eqs : List Nat) (N : Nat) (ops : Array Oper) (H : List Nat) (ni : Bool) (st : PSt) (o : Oper) : Option (PSt × Prop) :=
  match o.dst with
  | some d => cond (Nat.blt d N) (match o.guard with
    | none => match pread tab ⟨st.tm, maskM H 0 st.mem⟩ o.op with
      | some (r, p) => cond (needI st o.op && !ni) none (some (st.put d r, p))
      | none => match pread2 tab eqs ⟨st.tm, maskM H 0 st.mem⟩ o.op with
        | some (r, p) => some (st.put d r, p)
        | none => none
    | some (j, want) => match gval ops st j want with
      | some g => match pread tab ⟨st.tm, maskM H 0 st.mem⟩ o.op with
        | some (r, p) => cond (needI st o.op && !ni) none (some (st.put d (.opt g (str r)), g = true → strP r p))
        | none => match pread2 tab eqs ⟨st.tm, maskM H 0 st.mem⟩ o.op with
          | some (r, p) => some (st.put d (.opt g r), g = true → p)
          | none => cond (deadB st o.op) (cond g none (some (st.put d (.opt false .junk), True))) none
      | none => none) none
  | none => none
theorem needI_ni {st : PSt} {o : Oper} {ni : Bool} {m : List Row} (h : (needI st o.op && !ni) = false) (hn : needI ⟨st.tm, m⟩ o.op = true) : ni = true := by
  have : needI st o.op = true := by
    cases ho : o.op <;> rw [ho] at hn <;> exact hn
  rw [this] at h; cases ni <;> simp_all
theorem pe_take (i : Nat) (hi : ops[i]? = some o) (hs : Region.noSelect ops = true) (hf : Region.free .any ops listed i = true) (hready : (Region.ready .any ops listed).contains i = true)
    (ht : takeOp G.tab G.eqs N ops H ni st o = some (st', p)) (hp : p) (h : PE G N Γ ops H ni fuel (listed.setIfInBounds i true) st' K) : PE G N Γ ops H ni (fuel + 1) listed st K := by
  have hq : ∀ {HB : Nat → Prop} {w1 w' : World}, SHB HB w1 w' → ∀ b, HB b → w'.heap[b]? = w1.heap[b]? := fun h b hb => (h b hb).2
  unfold takeOp at ht
  split at ht
  · rename_i d hd
    obtain ⟨hN, ht⟩ := cond_some ht
    split at ht
    · rename_i hg
      split at ht
      · rename_i r q hr
        obtain ⟨hni, ht⟩ := cond_none ht
        simp only [Option.some.injEq, Prod.mk.injEq] at ht
        obtain ⟨rfl, rfl⟩ := ht
        refine pe_first i hi hs hf hready hd hN (fun HB w1 ρ I a w hrel hinv => ?_) h
        obtain ⟨v, hv, hvr⟩ := pread_sound G.ok (hrel.mask H) o hr hp
        simp only [maskM_length] at hvr
        exact ⟨v, .inl ⟨by simp [Region.wanted, hg], fun w' hw' => .inl (hv w' (sameOn_any hinv (needI_ni hni) (hq hw')))⟩, hvr⟩
      · split at ht
        · rename_i r q hr
          simp only [Option.some.injEq, Prod.mk.injEq] at ht
          obtain ⟨rfl, rfl⟩ := ht
          refine pe_first i hi hs hf hready hd hN (fun HB w1 ρ I a w hrel hinv => ?_) h
          obtain ⟨v, hv, hvr⟩ := pread2_sound G.ok G.eqsOk (hrel.mask H) o hr hp
          simp only [maskM_length] at hvr
          exact ⟨v, .inl ⟨by simp [Region.wanted, hg], fun w' hw' => .inl (hv w' (sameOn_any hinv (fun hn => by cases hn) (hq hw')))⟩, hvr⟩
        · cases ht
    · rename_i j want hg
      split at ht
      · rename_i g hgv
        split at ht
        · rename_i r q hr
          obtain ⟨hni, ht⟩ := cond_none ht
          simp only [Option.some.injEq, Prod.mk.injEq] at ht
          obtain ⟨rfl, rfl⟩ := ht
          refine pe_first i hi hs hf hready hd hN (fun HB w1 ρ I a w hrel hinv => ?_) h
          have hw := gval_sound hrel hg hgv
          cases g
          · exact ⟨undef, .inr ⟨hw, rfl⟩, by simp, fun _ => rfl⟩
          · obtain ⟨v, hv, hvr⟩ := pread_sound G.ok (hrel.mask H) o hr (strP_pre (hp rfl))
            have hvr := (str_rel hvr (hp rfl)).1
            simp only [maskM_length] at hvr
            exact ⟨v, .inl ⟨hw, fun w' hw' => .inl (hv w' (sameOn_any hinv (needI_ni hni) (hq hw')))⟩, fun _ => hvr, by simp⟩
        · split at ht
          · rename_i r q hr
            simp only [Option.some.injEq, Prod.mk.injEq] at ht
            obtain ⟨rfl, rfl⟩ := ht
            refine pe_first i hi hs hf hready hd hN (fun HB w1 ρ I a w hrel hinv => ?_) h
            have hw := gval_sound hrel hg hgv
            cases g
            · exact ⟨undef, .inr ⟨hw, rfl⟩, by simp, fun _ => rfl⟩
            · obtain ⟨v, hv, hvr⟩ := pread2_sound G.ok G.eqsOk (hrel.mask H) o hr (hp rfl)
              simp only [maskM_length] at hvr
              exact ⟨v, .inl ⟨hw, fun w' hw' => .inl (hv w' (sameOn_any hinv (fun hn => by cases hn) (hq hw')))⟩, fun _ => hvr, by simp⟩
          · obtain ⟨_, ht⟩ := cond_some ht
            obtain ⟨hg0, ht2⟩ := cond_none ht
            subst hg0
            simp only [Option.some.injEq, Prod.mk.injEq] at ht2
            obtain ⟨rfl, rfl⟩ := ht2
            refine pe_first i hi hs hf hready hd hN (fun HB w1 ρ I a w hrel hinv => ?_) h
            exact ⟨undef, .inr ⟨gval_sound hrel hg hgv, rfl⟩, by simp, fun _ => rfl⟩
      · cases ht
  · cases ht
theorem arel_held {mem : List Row} {ρ : Nat → Loc} {I : Nat → Prop} {w w' : World} (ht : ∀ b, I b → w'.heap[b]? = w.heap[b]?) : ∀ (ps : List PV) (vs : List Value), clBL ps = true → (∀ i, i < ps.length → VRel mem.length ρ I w (nthP ps i) (vs.getD i undef)) → vs.length = ps.length → ARel ρ I w' ps vs
  | [], vs, _, _, hl => by
    have : vs = [] := by simpa using hl
    subst this; trivial
  | p :: ps, [], _, _, hl => by simp at hl
  | p :: ps, v :: vs, hc, h, hl => by
    simp only [clBL, Bool.and_eq_true] at hc
    have h0 := h 0 (by simp)
    simp [nthP] at h0
    exact ⟨VRel.held ht p _ _ _ (.inr (clB_spec p hc.1)) h0, arel_held (mem := mem) ht ps vs hc.2 (fun i hi => by simpa [nthP] using h (i + 1) (by simpa using hi)) (by simpa using hl)⟩
theorem pe_call {f : FuncId} {x : Operand} {args : Array Operand} {tys : Array TypeId} {c : Nat → PV} {qs : List PV} {X : PV} (i : Nat) (hi : ops[i]? = some o) (hs : Region.noSelect ops = true) (hf : Region.free .any ops listed i = true) (hready : (Region.ready .any ops listed).contains i = true) (hni : ni = true)
    (hg : o.guard = none) (hd : o.dst = some d) (hN : Nat.blt d N = true) (ho : o.op = .call ⟨.value x, args, tys⟩) (hx : st.ev x = .clo f 0 c) (hc : PureC G.P f qs (fun r => r = X)) (hq : args.toList.map st.ev = qs) (hcl : clBL qs = true) (hdet : detB X = true)
    (h : PE G N Γ ops H ni fuel (listed.setIfInBounds i true) (st.put d X) K) : PE G N Γ ops H ni (fuel + 1) listed st K := by
  subst hq
  refine pe_first i hi hs hf hready hd hN (fun HB w1 ρ I a w hrel hinv => ⟨detV X, .inl ⟨by simp [Region.wanted, hg], fun w' hw' => .inr ?_⟩, det_rel hdet⟩) h
  have hxv : a.eval x = .func (.func f) #[] #[] := by
    have := ev_rel hrel x
    rw [hx] at this
    obtain ⟨vs, e1, e2, _⟩ := this
    rw [e1, Array.size_eq_zero_iff.1 e2]
  have hrun := call_run (P := G.P) hc.1 ho hxv w'
  have hI : ∀ b, I b → w'.heap[b]? = w.heap[b]? := fun b hb => by rw [(hw' b (hinv.imm hni b hb)).2, hinv.same b (hinv.imm hni b hb)]
  refine ⟨f, _, hrun, ?_⟩
  have hA := arel_held (mem := st.mem) (ρ := ρ) hI (args.toList.map st.ev) (args.toList.map a.eval) hcl (evs_rel hrel args.toList) (by simp)
  have hcall := hc.2 ρ I w' (args.toList.map a.eval) (fun b hb => (hw' b (hinv.imm hni b hb)).1) (fun x hx => by obtain ⟨g1, T, fz, g2⟩ := hrel.fr.gl x hx; exact ⟨g1, T, fz, by rw [hI _ g1]; exact g2⟩) hA
  have he : (args.toList.map a.eval).toArray = args.map a.eval ++ #[] := by apply Array.ext'; simp
  rw [he] at hcall
  refine hcall.mono ?_
  rintro e w2 ⟨v, r, rfl, rfl, hx2, hvr⟩
  exact ⟨by rw [det_eq hdet hvr], hx2⟩
theorem pe_all (rs : List Nat) (hready : Region.ready .any ops listed = rs) (hne : rs ≠ []) (hHb : inB st.mem.length H = true)
    (h : ∀ i, i ∈ rs → ∃ o ch nk, ops[i]? = some o ∧ chB H ch = true ∧ PStep G N Γ ops o st ch nk (fun st' => PE G N Γ ops H (ni && nk) fuel (listed.setIfInBounds i true) st' K)) : PE G N Γ ops H ni (fuel + 1) listed st K := .mk fun HB w1 ρ I a w hrel hinv => by
  have hH := inB_spec H hHb
  refine ⟨fun h0 => absurd (hready ▸ h0) hne, fun j hj => ?_⟩
  obtain ⟨o, ch, nk, hi, hchb, hstep⟩ := h j (hready ▸ hj)
  have hch := chB_spec hchb
  unfold wpOp
  simp only [hi]
  have hs := hstep.go ρ I a w hrel (Qf N Γ K)
  by_cases hw : Region.wanted o (yielded ops a.tmps) = true
  · rw [if_pos hw] at hs ⊢
    refine .inl (Oper.wp_mono (fun a' w' => ?_) hs)
    rintro ⟨st', ρ', I', hk, hrel', hc⟩ w'' hx
    have hinv' := (hinv.step hc hch hH).ext hx
    exact ⟨fun _ => hinv'.shb, hk.go HB w1 ρ' I' a' w'' (hrel'.ext hx (I' := I') (fun _ h => h) (fun _ h => .inl h)) hinv'⟩
  · rw [if_neg hw] at hs ⊢
    obtain ⟨st', ρ', I', hk, hrel', hc⟩ := hs
    intro w'' hx
    have hinv' := (hinv.step hc hch hH).ext hx
    exact ⟨fun _ => hinv'.shb, hk.go HB w1 ρ' I' _ w'' (hrel'.ext hx (I' := I') (fun _ h => h) (fun _ h => .inl h)) hinv'⟩
theorem pe_done (hr : Region.ready .any ops listed = []) (h : K .normal st) : ∀ {fuel}, PE G N Γ ops H ni fuel listed st K
  | 0 => .mk fun HB w1 ρ I a w hrel hinv => ⟨hr, by simp, st, ρ, I, h, hrel⟩
  | n + 1 => .mk fun HB w1 ρ I a w hrel hinv => ⟨fun _ => ⟨by simp, st, ρ, I, h, hrel⟩, fun i hi => by rw [hr] at hi; cases hi⟩
theorem pe_last {i : Nat} {ch : List Nat} {nk : Bool} (hready : Region.ready .any ops listed = [i]) (hlast : lastB ops i = true) (hi : ops[i]? = some o) (hnil : Region.ready .any ops (listed.setIfInBounds i true) = []) (hstep : PStep G N Γ ops o st ch nk (fun st' => K .normal st')) : PE G N Γ ops H ni (fuel + 1) listed st K := .mk fun HB w1 ρ I a w hrel hinv => by
  have fin : ∀ (fuel : Nat) (a' : Act) (w'' : World), Qf N Γ K .normal a' w'' → wpAnyE G.P ops (Qf N Γ K) (SHB HB w1) fuel (listed.setIfInBounds i true) a' w''
    | 0, _, _, h => ⟨hnil, h⟩
    | _ + 1, _, _, h => ⟨fun _ => h, fun j hj => by rw [hnil] at hj; cases hj⟩
  refine ⟨fun h0 => (by rw [hready] at h0; cases h0), fun j hj => ?_⟩
  obtain rfl : j = i := by rw [hready] at hj; simpa using hj
  unfold wpOp
  simp only [hi]
  have hs := hstep.go ρ I a w hrel (Qf N Γ K)
  by_cases hw : Region.wanted o (yielded ops a.tmps) = true
  · rw [if_pos hw] at hs ⊢
    refine .inl (Oper.wp_mono (fun a' w' => ?_) hs)
    rintro ⟨st', ρ', I', hk, hrel', hc⟩ w'' hx
    exact ⟨fun h => (by rw [hlast] at h; cases h), fin _ _ _ ⟨by simp, st', ρ', I', hk, hrel'.ext hx (I' := I') (fun _ h => h) (fun _ h => .inl h)⟩⟩
  · rw [if_neg hw] at hs ⊢
    obtain ⟨st', ρ', I', hk, hrel', hc⟩ := hs
    intro w'' hx
    exact ⟨fun h => (by rw [hlast] at h; cases h), fin _ _ _ ⟨by simp, st', ρ', I', hk, hrel'.ext hx (I' := I') (fun _ h => h) (fun _ h => .inl h)⟩⟩
theorem pe_start {id : Nat} (H : List Nat) (n : Nat) (hn : ops.size = n) (h : PE G N Γ ops H true n (Array.replicate n false) st K) : PWp G.toPg N Γ (.region id ops true) st K := .mk fun ρ I a w hr => by
  subst hn
  have hx : Ext w { w with drawn := w.drawn + 1 } := ⟨rfl, rfl, rfl, Nat.le_refl _, fun _ _ => rfl⟩
  have hr' := hr.ext hx (I' := I) (fun _ h => h) (fun _ h => .inl h)
  refine wp_region_held G.wide (wpAnyE_held _ _ _ _ (h.go (fun b => I b ∨ ∃ l r, l ∈ H ∧ st.mem[l]? = some r ∧ r.s.live ∧ b = (ρ l).b) _ ρ I a _ hr' ⟨fun _ _ => rfl, ?_, ?_, ?_, ?_⟩))
  · rintro b (hb | ⟨l, r, _, hl, hs, rfl⟩)
    · exact hr'.fr.m.lt b hb
    · exact hr'.lt hl hs
  · exact fun l r hl hr hs => .inr ⟨l, r, hl, hr, hs, rfl⟩
  · rintro l r hl hr ho (hb | ⟨l', r', hl', hr2, hs', he⟩)
    · exact hr'.fr.m.mine l r hr ho hb
    · by_cases e : l = l'
      · subst e; exact hl hl'
      · exact hr'.fr.m.apart l l' r r' e hr hr2 (RS.live_of_own ho) hs' he
  · exact fun _ b hb => .inl hb
end
theorem inB_mono {n m : Nat} (h : n ≤ m) : ∀ (H : List Nat), inB n H = true → inB m H = true
  | [], _ => rfl
  | l :: r, hh => by
    simp only [inB, Bool.and_eq_true, Nat.blt_eq] at hh ⊢
    exact ⟨by omega, inB_mono h r hh.2⟩
inductive SK where
  | take (i : Nat)
  | one (i : Nat)
  | two (i j : Nat)
abbrev Sched := List SK
def schLen : Sched → Nat
  | [] => 0
  | .two _ _ :: s => schLen s + 2
  | _ :: s => schLen s + 1
def schOk (ops : Array Oper) (fin : Bool) : Sched → Array Bool → Bool
  | [], listed => !fin || (Region.ready .any ops listed).isEmpty
  | .take i :: s, listed => Region.free .any ops listed i && (Region.ready .any ops listed).contains i && schOk ops fin s (listed.setIfInBounds i true)
  | .one i :: s, listed => Region.ready .any ops listed == [i] && schOk ops fin s (listed.setIfInBounds i true)
  | .two i j :: s, listed => Region.ready .any ops listed == [i, j] && Region.ready .any ops (listed.setIfInBounds i true) == [j] && Region.ready .any ops (listed.setIfInBounds j true) == [i] && !(i == j) && schOk ops fin s ((listed.setIfInBounds i true).setIfInBounds j true)
structure PS (G : Pg2) (N : Nat) (Γ : Fr) (ops : Array Oper) (H : List Nat) (ni fin : Bool) (sch : Sched) (m : Nat) (listed : Array Bool) (st : PSt) (K : Exit → PSt → Prop) : Prop where
  go : Region.noSelect ops = true → schOk ops fin sch listed = true → PE G N Γ ops H ni (schLen sch + m) listed st K
def swapT : PSt → PSt
  | ⟨(d, x) :: (e, y) :: l, m⟩ => ⟨(e, y) :: (d, x) :: l, m⟩
  | st => st
def apartT : PSt → Bool
  | ⟨(d, x) :: (e, y) :: l, m⟩ => !Nat.beq d e
  | _ => false
theorem swapT_rel {N : Nat} {Γ : Fr} {st : PSt} {ρ : Nat → Loc} {I : Nat → Prop} {a : Act} {w : World} (ha : apartT st = true) (h : Rel N Γ (swapT st) ρ I a w) : Rel N Γ st ρ I a w := by
  obtain ⟨tm, mem⟩ := st
  match tm, ha with
  | (d, x) :: (e, y) :: l, ha =>
    refine ⟨h.fr, h.defers, h.size, fun t => ?_⟩
    have := h.slot t
    simp only [PSt.get, swapT, look] at this ⊢
    cases h1 : Nat.beq t d
    · rw [h1] at this; simpa using this
    · cases h2 : Nat.beq t e
      · rw [h1, h2] at this; simpa using this
      · exfalso
        have e1 := Nat.eq_of_beq_eq_true h1
        have e2 := Nat.eq_of_beq_eq_true h2
        rw [← e1, ← e2] at ha
        have : Nat.beq t t = true := by simp
        simp [apartT, this] at ha
theorem swapT_mem (st : PSt) : (swapT st).mem = st.mem := by
  obtain ⟨tm, mem⟩ := st
  match tm with
  | [] => rfl
  | [_] => rfl
  | _ :: _ :: _ => rfl
theorem PE.swap {G : Pg2} {N : Nat} {Γ : Fr} {ops : Array Oper} {H : List Nat} {ni : Bool} {fuel : Nat} {listed : Array Bool} {st : PSt} {K : Exit → PSt → Prop} (ha : apartT st = true) (h : PE G N Γ ops H ni fuel listed st K) : PE G N Γ ops H ni fuel listed (swapT st) K :=
  .mk fun HB w1 ρ I a w hrel hinv => h.go HB w1 ρ I a w (swapT_rel ha hrel) ⟨hinv.same, hinv.lt, fun l r hl hr hs => hinv.held l r hl (by rw [swapT_mem]; exact hr) hs, fun l r hl hr hs => hinv.free l r hl (by rw [swapT_mem]; exact hr) hs, hinv.imm⟩
def nilB : List Nat → Bool
  | [] => true
  | _ => false
theorem nilB_eq {l : List Nat} (h : nilB l = true) : l = [] := by cases l; rfl; cases h
def twoOp (tab : List TI) (eqs : List Nat) (k0 N : Nat) (ops : Array Oper) (st : PSt) (o q : Oper) : Option (PSt × List Prop) :=
  match stepOp tab eqs k0 N ops st o with
  | some (s1, p1, c1) => match stepOp tab eqs k0 N ops s1 q with
    | some (s2, p2, c2) => match stepOp tab eqs k0 N ops st q with
      | some (t1, q1, d1) => match stepOp tab eqs k0 N ops t1 o with
        | some (t2, q2, d2) => cond (nilB c1 && nilB c2 && nilB d1 && nilB d2 && apartT s2 && Nat.ble st.mem.length s1.mem.length && Nat.ble st.mem.length t1.mem.length) (some (s2, [p1, p2, q1, q2, t2 = swapT s2])) none
        | none => none
      | none => none
    | none => none
  | none => none
def exSch (tab : List TI) (eqs : List Nat) (k0 N : Nat) (ops : Array Oper) (H : List Nat) (ni : Bool) : Sched → Bool → Array Bool → PSt → List Prop → Option (Sched × Array Bool × PSt × List Prop)
  | [], mv, ls, st, ps => cond mv (some ([], ls, st, ps)) none
  | .take i :: s, mv, ls, st, ps => match opAt ops.toList i with
    | none => none
    | some o => match takeOp tab eqs N ops H ni st o with
      | some (st', p) => exSch tab eqs k0 N ops H ni s true (ls.setIfInBounds i true) st' (p :: ps)
      | none => cond mv (some (.take i :: s, ls, st, ps)) none
  | .one i :: s, mv, ls, st, ps => match opAt ops.toList i with
    | none => none
    | some o => match stepOp tab eqs k0 N ops st o with
      | some (st', p, ch) => cond (chB H ch && inB st.mem.length H) (exSch tab eqs k0 N ops H ni s true (ls.setIfInBounds i true) st' (p :: ps)) (cond mv (some (.one i :: s, ls, st, ps)) none)
      | none => cond mv (some (.one i :: s, ls, st, ps)) none
  | .two i j :: s, mv, ls, st, ps => match opAt ops.toList i, opAt ops.toList j with
    | some o, some q => match twoOp tab eqs k0 N ops st o q with
      | some (st', p) => cond (inB st.mem.length H && inB st'.mem.length H) (exSch tab eqs k0 N ops H ni s true ((ls.setIfInBounds i true).setIfInBounds j true) st' (AllP p :: ps)) none
      | none => none
    | _, _ => none
section
variable {G : Pg2} {N : Nat} {Γ : Fr} {K : Exit → PSt → Prop} {ops : Array Oper} {H : List Nat} {ni fin : Bool} {m : Nat}
theorem exSch_sound : ∀ (sch : Sched) (mv : Bool) (ls : Array Bool) (st : PSt) (ps : List Prop) (sch' : Sched) (ls' : Array Bool) (st' : PSt) (ps' : List Prop),
    exSch G.tab G.eqs Γ.k0 N ops H ni sch mv ls st ps = some (sch', ls', st', ps') → AllP ps' → AllP ps ∧ (PS G N Γ ops H ni fin sch' m ls' st' K → PS G N Γ ops H ni fin sch m ls st K) := by
  have stop : ∀ {mv : Bool} {c c' : Sched} {st st' : PSt} {s s' : Array Bool} {ps ps' : List Prop}, cond mv (some (c, s, st, ps)) none = some (c', s', st', ps') → AllP ps' → AllP ps ∧ (PS G N Γ ops H ni fin c' m s' st' K → PS G N Γ ops H ni fin c m s st K) := fun h hp => by
    obtain ⟨_, h⟩ := cond_some h
    simp only [Option.some.injEq, Prod.mk.injEq] at h
    obtain ⟨rfl, rfl, rfl, rfl⟩ := h
    exact ⟨hp, id⟩
  intro sch
  induction sch with
  | nil => intro mv ls st ps sch' ls' st' ps' h hp; rw [exSch] at h; exact stop h hp
  | cons x s ih =>
    intro mv ls st ps sch' ls' st' ps' h hp
    cases x with
    | take i =>
      rw [exSch] at h
      split at h
      · cases h
      · rename_i o ho
        have ho := opAt_ops ho
        split at h
        · rename_i st1 p ht
          obtain ⟨h1, h2⟩ := ih _ _ _ _ _ _ _ _ h hp
          refine ⟨h1.2, fun k => ⟨fun hs hok => ?_⟩⟩
          simp only [schOk, Bool.and_eq_true] at hok
          have := pe_take (fuel := schLen s + m) i ho hs hok.1.1 hok.1.2 ht h1.1 ((h2 k).go hs hok.2)
          rw [schLen, show schLen s + 1 + m = schLen s + m + 1 by omega]
          · exact this
          · intro _ _ h; cases h
        · exact stop h hp
    | one i =>
      rw [exSch] at h
      split at h
      · cases h
      · rename_i o ho
        have ho := opAt_ops ho
        split at h
        · rename_i st1 p ch ht
          cases hch : (chB H ch && inB st.mem.length H)
          · rw [hch, cond_false] at h
            exact stop h hp
          rw [hch, cond_true] at h
          simp only [Bool.and_eq_true] at hch
          obtain ⟨h1, h2⟩ := ih _ _ _ _ _ _ _ _ h hp
          refine ⟨h1.2, fun k => ⟨fun hs hok => ?_⟩⟩
          simp only [schOk, Bool.and_eq_true, beq_iff_eq] at hok
          have := pe_all (fuel := schLen s + m) [i] hok.1 (by simp) hch.2 (fun j hj => by
            obtain rfl : j = i := by simpa using hj
            exact ⟨o, ch, true, ho, hch.1, stepOp_pst ht h1.1 (by rw [Bool.and_true]; exact (h2 k).go hs hok.2)⟩)
          rw [schLen, show schLen s + 1 + m = schLen s + m + 1 by omega]
          · exact this
          · intro _ _ h; cases h
        · exact stop h hp
    | two i j =>
      rw [exSch] at h
      split at h
      · rename_i o q ho hq
        have ho := opAt_ops ho
        have hq := opAt_ops hq
        split at h
        · rename_i st2 p ht
          obtain ⟨hch, h⟩ := cond_some h
          simp only [Bool.and_eq_true] at hch
          obtain ⟨h1, h2⟩ := ih _ _ _ _ _ _ _ _ h hp
          refine ⟨h1.2, fun k => ⟨fun hs hok => ?_⟩⟩
          unfold twoOp at ht
          split at ht
          · rename_i s1 p1 c1 e1
            split at ht
            · rename_i s2 p2 c2 e2
              split at ht
              · rename_i t1 q1 d1 e3
                split at ht
                · rename_i t2 q2 d2 e4
                  obtain ⟨hc, hfin⟩ := cond_some ht
                  have hc : ((((((nilB c1 = true ∧ nilB c2 = true) ∧ nilB d1 = true) ∧ nilB d2 = true) ∧ apartT s2 = true) ∧ Nat.ble st.mem.length s1.mem.length = true) ∧ Nat.ble st.mem.length t1.mem.length = true) := by simpa only [Bool.and_eq_true] using hc
                  obtain ⟨⟨⟨⟨⟨⟨c1e, c2e⟩, d1e⟩, d2e⟩, hap⟩, le1⟩, le2⟩ := hc
                  have c1e := nilB_eq c1e; have c2e := nilB_eq c2e; have d1e := nilB_eq d1e; have d2e := nilB_eq d2e
                  subst c1e c2e d1e d2e
                  simp only [Option.some.injEq, Prod.mk.injEq] at hfin
                  obtain ⟨rfl, rfl⟩ := hfin
                  obtain ⟨⟨p1h, p2h, q1h, q2h, hsw, _⟩, hps⟩ := h1
                  simp only [schOk, Bool.and_eq_true, beq_iff_eq, Bool.not_eq_true', beq_eq_false_iff_ne] at hok
                  obtain ⟨⟨⟨⟨r0, r1⟩, r2⟩, hne⟩, r3⟩ := hok
                  have fin := (h2 k).go hs r3
                  rw [schLen, show schLen s + 2 + m = (schLen s + m + 1) + 1 by omega]
                  refine pe_all [i, j] r0 (by simp) hch.1 (fun x hx => ?_)
                  have hx : x = i ∨ x = j := by simpa using hx
                  rcases hx with rfl | rfl
                  · refine ⟨o, [], true, ho, rfl, stepOp_pst e1 p1h ?_⟩
                    rw [Bool.and_true]
                    refine pe_all [j] r1 (by simp) ?_ (fun y hy => ?_)
                    · exact inB_mono (Nat.le_of_ble_eq_true le1) _ hch.1
                    · obtain rfl : y = j := by simpa using hy
                      exact ⟨q, [], true, hq, rfl, stepOp_pst e2 p2h (by rw [Bool.and_true]; exact fin)⟩
                  · refine ⟨q, [], true, hq, rfl, stepOp_pst e3 q1h ?_⟩
                    rw [Bool.and_true]
                    refine pe_all [i] r2 (by simp) ?_ (fun y hy => ?_)
                    · exact inB_mono (Nat.le_of_ble_eq_true le2) _ hch.1
                    · obtain rfl : y = i := by simpa using hy
                      refine ⟨o, [], true, ho, rfl, stepOp_pst e4 q2h ?_⟩
                      rw [Bool.and_true, hsw, Array.setIfInBounds_comm _ _ (Ne.symm hne)]
                      exact fin.swap hap
                · cases ht
              · cases ht
            · cases ht
          · cases ht
        · cases h
      · cases h
variable {st st' : PSt} {sch sch' : Sched} {ls ls' : Array Bool} {ps : List Prop} {o : Oper}
theorem xs (h : exSch G.tab G.eqs Γ.k0 N ops H ni sch false ls st [] = some (sch', ls', st', ps)) (hp : AllP ps) (hk : PS G N Γ ops H ni fin sch' m ls' st' K) : PS G N Γ ops H ni fin sch m ls st K := (exSch_sound sch _ _ _ _ _ _ _ _ h hp).2 hk
theorem xs_done (h : K .normal st) : PS G N Γ ops H ni true [] m ls st K := ⟨fun _ hok => pe_done (by simpa [schOk] using hok) h⟩
def ptrRows (st : PSt) : List Operand → List Nat
  | [] => []
  | x :: l => match st.ev x with
    | .ptr r _ _ => r :: ptrRows st l
    | _ => ptrRows st l
def dryW (tab : List TI) (eqs : List Nat) (k0 N : Nat) (ops : Array Oper) : List Oper → PSt → List Nat → List Nat
  | [], _, acc => acc
  | o :: l, st, acc => match stepOp tab eqs k0 N ops st o with
    | some (st', _, ch) => dryW tab eqs k0 N ops l st' (ch ++ acc)
    | none => match o.op with
      | .call c => match o.dst with
        | some d => dryW tab eqs k0 N ops l (st.put d .junk) (ptrRows st c.args.toList ++ acc)
        | none => dryW tab eqs k0 N ops l st (ptrRows st c.args.toList ++ acc)
      | op => match o.dst with
        | some d => dryW tab eqs k0 N ops l (st.put d .junk) acc
        | none => match stL st op with
          | some r => dryW tab eqs k0 N ops l st (r :: acc)
          | none => dryW tab eqs k0 N ops l st acc
def dryL (ops : Array Oper) : List Oper := cond (lastB ops (ops.toList.length - 1)) ops.toList.dropLast ops.toList
def compH (acc : List Nat) : List Row → Nat → (List Nat → Option (List Nat)) → Option (List Nat)
  | [], _, k => k []
  | _ :: m, n, k => cond (acc.any (Nat.beq n)) (compH acc m (n + 1) k) (compH acc m (n + 1) fun l => k (n :: l))
theorem xs_start {id : Nat} (fin : Bool) (sch : Sched) (m : Nat) (hH : compH (dryW G.tab G.eqs Γ.k0 N ops (dryL ops) st []) st.mem 0 some = some H) (hn : ops.size = schLen sch + m) (hok : (Region.noSelect ops && schOk ops fin sch (Array.replicate (schLen sch + m) false)) = true) (h : PS G N Γ ops H true fin sch m (Array.replicate (schLen sch + m) false) st K) : PWp G.toPg N Γ (.region id ops true) st K := by
  simp only [Bool.and_eq_true] at hok
  exact pe_start H _ hn (h.go hok.1 hok.2)
theorem xs_last {i : Nat} {ch : List Nat} {nk : Bool} (hlast : lastB ops i = true) (hi : opAt ops.toList i = some o) (h : PStep G N Γ ops o st ch nk (fun st' => K .normal st')) : PS G N Γ ops H ni true [.one i] m ls st K := ⟨fun hs hok => by
  simp only [schOk, Bool.and_eq_true, beq_iff_eq, Bool.not_true, Bool.false_or] at hok
  have : schLen [SK.one i] + m = m + 1 := by show 0 + 1 + m = m + 1; omega
  rw [this]
  exact pe_last hok.1 hlast (opAt_ops hi) (by simpa using hok.2) h⟩
theorem xs_call {d : Nat} {f : FuncId} {x : Operand} {args : Array Operand} {tys : Array TypeId} {c : Nat → PV} {qs : List PV} {X : PV} {i : Nat} {s : Sched} (hi : opAt ops.toList i = some o)
    (hg : o.guard = none) (hd : o.dst = some d) (hN : Nat.blt d N = true) (ho : o.op = .call ⟨.value x, args, tys⟩) (hx : st.ev x = .clo f 0 c) (hc : PureC G.P f qs (fun r => r = X)) (hq : args.toList.map st.ev = qs) (hcl : clBL qs = true) (hdet : detB X = true)
    (h : PS G N Γ ops H true fin s m (ls.setIfInBounds i true) (st.put d X) K) : PS G N Γ ops H true fin (.take i :: s) m ls st K := ⟨fun hs hok => by
  simp only [schOk, Bool.and_eq_true] at hok
  have := pe_call (fuel := schLen s + m) i (opAt_ops hi) hs hok.1.1 hok.1.2 rfl hg hd hN ho hx hc hq hcl hdet (h.go hs hok.2)
  rw [schLen, show schLen s + 1 + m = schLen s + m + 1 by omega]
  · exact this
  · intro _ _ h; cases h⟩
theorem xs_one {i : Nat} {s : Sched} {ch : List Nat} {nk : Bool} (hi : opAt ops.toList i = some o) (hch : chB H ch = true) (hH : inB st.mem.length H = true) (h : PStep G N Γ ops o st ch nk (fun st' => PS G N Γ ops H (ni && nk) fin s m (ls.setIfInBounds i true) st' K)) : PS G N Γ ops H ni fin (.one i :: s) m ls st K := ⟨fun hs hok => by
  simp only [schOk, Bool.and_eq_true, beq_iff_eq] at hok
  rw [schLen, show schLen s + 1 + m = schLen s + m + 1 by omega]
  · refine pe_all (fuel := schLen s + m) [i] hok.1 (by simp) hH (fun j hj => ?_)
    obtain rfl : j = i := by simpa using hj
    refine ⟨o, ch, nk, opAt_ops hi, hch, .mk fun ρ I a w hrel Q => ?_⟩
    have := h.go ρ I a w hrel Q
    split
    · rename_i hw
      rw [if_pos hw] at this
      exact Oper.wp_mono (fun a' w' ⟨st', ρ', I', hk, hr⟩ => ⟨st', ρ', I', hk.go hs hok.2, hr⟩) this
    · rename_i hw
      rw [if_neg hw] at this
      obtain ⟨st', ρ', I', hk, hr⟩ := this
      exact ⟨st', ρ', I', hk.go hs hok.2, hr⟩
  · intro _ _ h; cases h⟩
end
theorem qq {P : Prop} (h : P := by first | exact Nat.zero_lt_one | exact fun _ => trivial | exact fun h => ⟨h, trivial⟩ | exact fun h => ⟨h, h, trivial⟩ | exact fun _ => Nat.zero_lt_one | exact fun h => ⟨h, Nat.zero_lt_one⟩ | exact pk_t | exact pk_f | exact fun h => ⟨h, fun hb => by simp only [h, hb]; rfl⟩ | exact (rfl : (_ : PSt) = swapT _) | exact (show (_ : Nat) < _ from by first | omega | (simp only [iRow]; omega)) | (refine And.intro ?_ ?_ <;> omega) | exact ⟨by decide, by decide⟩ | exact ⟨by omega, by omega, by omega, (by first | (show (_ : Int) * 8 ≤ _; omega) | (show (_ : Int) * 24 ≤ _; omega))⟩ | exact ⟨Nat.le_refl _, Nat.zero_lt_one, (by decide), (by decide)⟩ | exact ⟨Nat.le_refl _, (by rw [hk]; exact Nat.le_of_ble_eq_true rfl), Nat.le_of_eq (Nat.zero_add _), (by first | exact (show (_ : Nat) * 8 ≤ 140737488355328 from by omega) | exact (show (_ : Nat) * 16 ≤ 140737488355328 from by omega) | exact (show (_ : Nat) * 24 ≤ 140737488355328 from by omega) | exact (show (_ : Nat) * 32 ≤ 140737488355328 from by omega) | exact (show (_ : Nat) * 48 ≤ 140737488355328 from by omega)), (show (_ : Nat) ≤ 9223372036854775807 from by omega)⟩ | exact (show (_ : Nat) < _ from by decide) | (intro h; have h2 := h; simp at h2; first | exact ⟨h, h, by omega, by omega⟩ | exact ⟨h, (show (_ : Nat) < _ from by first | omega | (simp only [iRow]; omega))⟩ | exact ⟨h, by omega, by omega⟩ | exact ⟨by omega, by omega⟩ | exact (show (_ : Nat) < _ from by first | omega | (simp only [iRow]; omega)))) : P := h
theorem xdone {G : Pg2} {N : Nat} {Γ : Fr} {K : Exit → PSt → Prop} {e : Exit} {st : PSt} (h : K e st) : PX G N Γ K (.ex e) st [] := h
theorem qcg {P : Prop} (h : P := by first | exact fun h => ⟨h, trivial⟩ | exact fun _ => trivial | exact fun h => ⟨h, h, trivial⟩ | exact fun h => ⟨h, h, h, trivial⟩ | fail) : P := h
section
variable {G : Pg2} {N : Nat} {Γ : Fr} {K : Exit → PSt → Prop} {c : Code} {ops : Array Oper} {l : List Oper} {e : Exit} {st st' : PSt} {s s' : List Fm} {ps : List Prop} {c' : Ctl}
theorem yo (hp : AllP ps) (hk : PX G N Γ K c' st' s') (h : exec G.tab G.eqs Γ.k0 N 4000 false (.ops ops l) st s [] = some (c', st', s', ps) := by exact rfl) : POps G.toPg N Γ ops l st (stk G N Γ K s) := xo 4000 h hp hk
theorem yw (hp : AllP ps) (hk : PX G N Γ K c' st' s') (h : exec G.tab G.eqs Γ.k0 N 4000 false (.code c) st s [] = some (c', st', s', ps) := by exact rfl) : PWp G.toPg N Γ c st (stk G N Γ K s) := xw 4000 h hp hk
theorem yk (hp : AllP ps) (hk : PX G N Γ K c' st' s') (h : exec G.tab G.eqs Γ.k0 N 4000 false (.ex e) st s [] = some (c', st', s', ps) := by exact rfl) : stk G N Γ K s e st := xk 4000 h hp hk
theorem yo0 (hp : AllP ps) (hk : PX G N Γ K c' st' s') (h : exec G.tab G.eqs Γ.k0 N 4000 false (.ops ops l) st [] [] = some (c', st', s', ps) := by exact rfl) : POps G.toPg N Γ ops l st K := xo0 4000 h hp hk
theorem yw0 (hp : AllP ps) (hk : PX G N Γ K c' st' s') (h : exec G.tab G.eqs Γ.k0 N 4000 false (.code c) st [] [] = some (c', st', s', ps) := by exact rfl) : PWp G.toPg N Γ c st K := xw0 4000 h hp hk
end
section
variable {G : Pg2} {N : Nat} {Γ : Fr} {st : PSt} {K : Exit → PSt → Prop} {ops : Array Oper} {o : Oper} {rest : List Oper} {d : Nat} {f : FuncId} {x : Operand} {args : Array Operand} {tys : Array TypeId} {c : Nat → PV} {qs : List PV} {X : PV} {H : List Nat} {ni fin : Bool} {m : Nat} {ls : Array Bool} {i : Nat} {s : Sched}
theorem z1 (hc : PureC G.P f qs (fun r => r = X)) (h : POps G.toPg N Γ ops rest (st.put d X) K) (hg : o.guard = none := by exact rfl) (hd : o.dst = some d := by exact rfl) (hN : Nat.blt d N = true := by exact rfl) (ho : o.op = .call ⟨.value x, args, tys⟩ := by exact rfl) (hx : st.ev x = .clo f 0 c := by exact rfl) (hq : args.toList.map st.ev = qs := by exact rfl) (hcl : clBL qs = true := by exact rfl) (hs : scB X = true := by exact rfl) : POps G.toPg N Γ ops (o :: rest) st K := pop_callv hg hd hN ho hx hc hq hcl hs h
theorem z2 (hc : PureC G.P f qs (fun r => r = X)) (h : PS G N Γ ops H true fin s m (ls.setIfInBounds i true) (st.put d X) K) (hi : opAt ops.toList i = some o := by exact rfl) (hg : o.guard = none := by exact rfl) (hd : o.dst = some d := by exact rfl) (hN : Nat.blt d N = true := by exact rfl) (ho : o.op = .call ⟨.value x, args, tys⟩ := by exact rfl) (hx : st.ev x = .clo f 0 c := by exact rfl) (hq : args.toList.map st.ev = qs := by exact rfl) (hcl : clBL qs = true := by exact rfl) (hdet : detB X = true := by exact rfl) : PS G N Γ ops H true fin (.take i :: s) m ls st K := xs_call hi hg hd hN ho hx hc hq hcl hdet h
theorem z3 (hc : PureC G.P f qs (fun r => r = X)) (h : PS G N Γ ops H (ni && true) fin s m (ls.setIfInBounds i true) (st.put d X) K) (hi : opAt ops.toList i = some o := by exact rfl) (hH : inB st.mem.length H = true := by exact rfl) (hg : o.guard = none := by exact rfl) (hd : o.dst = some d := by exact rfl) (hN : Nat.blt d N = true := by exact rfl) (ho : o.op = .call ⟨.value x, args, tys⟩ := by exact rfl) (hx : st.ev x = .clo f 0 c := by exact rfl) (hq : args.toList.map st.ev = qs := by exact rfl) (hcl : clBL qs = true := by exact rfl) (hs : scB X = true := by exact rfl) : PS G N Γ ops H ni fin (.one i :: s) m ls st K := xs_one (ch := []) hi rfl hH (pst_callv hg hd hN ho hx hc hq hcl hs h)
theorem z4 {j : Nat} {want g : Bool} (hc : PureC G.P f qs (fun r => r = X)) (h : POps G.toPg N Γ ops rest (st.put d (.opt g X)) K) (hg : o.guard = some (j, want) := by exact rfl) (hd : o.dst = some d := by exact rfl) (hN : Nat.blt d N = true := by exact rfl) (hgv : gval ops st j want = some g := by exact rfl) (ho : o.op = .call ⟨.value x, args, tys⟩ := by exact rfl) (hx : st.ev x = .clo f 0 c := by exact rfl) (hp : g = true → strPL (args.toList.map st.ev) := by exact qcg) (hq : (args.toList.map st.ev).map str = qs := by exact rfl) (hcl : clBL qs = true := by exact rfl) (hs : scB X = true := by exact rfl) : POps G.toPg N Γ ops (o :: rest) st K := pop_callgv hg hd hN hgv ho hx (fun _ => hc) hp hq hcl hs h
theorem z5 {j : Nat} {want g : Bool} (hc : PureC G.P f qs (fun r => r = X)) (h : PS G N Γ ops H (ni && true) fin s m (ls.setIfInBounds i true) (st.put d (.opt g X)) K) (hi : opAt ops.toList i = some o := by exact rfl) (hH : inB st.mem.length H = true := by exact rfl) (hg : o.guard = some (j, want) := by exact rfl) (hd : o.dst = some d := by exact rfl) (hN : Nat.blt d N = true := by exact rfl) (hgv : gval ops st j want = some g := by exact rfl) (ho : o.op = .call ⟨.value x, args, tys⟩ := by exact rfl) (hx : st.ev x = .clo f 0 c := by exact rfl) (hp : g = true → strPL (args.toList.map st.ev) := by exact qcg) (hq : (args.toList.map st.ev).map str = qs := by exact rfl) (hcl : clBL qs = true := by exact rfl) (hs : scB X = true := by exact rfl) : PS G N Γ ops H ni fin (.one i :: s) m ls st K := xs_one (ch := []) hi rfl hH (pst_callgv hg hd hN hgv ho hx (fun _ => hc) hp hq hcl hs h)
end
theorem arel_of {ρ : Nat → Loc} {A : Nat → Prop} {w : World} : ∀ {args : List PV} {vs : List Value}, vs.length = args.length → (∀ i, i < args.length → VRel 0 ρ A w (nthP args i) (vs.getD i undef)) → ARel ρ A w args vs
  | [], [], _, _ => trivial
  | p :: ps, v :: vs, hl, h => ⟨by have := h 0 (by simp); simpa [nthP] using this, arel_of (by simpa using hl) fun i hi => by
      have := h (i + 1) (by simp; omega)
      simpa [nthP] using this⟩
  | [], _ :: _, hl, _ => by simp at hl
  | _ :: _, [], hl, _ => by simp at hl
theorem pure_rows {P : Program} {f : FuncId} {args : List PV} {post : PV → Prop} (h : PureC P f args post) : RowsC P f [] args (fun r rows => post r ∧ rows = []) := by
  refine ⟨h.1, fun ρ A w vs hm hG hl hv => (h.2 ρ A w vs hm.lt hG (arel_of hl hv)).mono ?_⟩
  rintro e w' ⟨v, r, h1, h2, hx, hr⟩
  refine ⟨v, r, [], ρ, _, h1, ⟨h2, rfl⟩, fun l r _ hl => by simp at hl, ?_, hr⟩
  exact ⟨⟨fun l r hl => by simp at hl, fun l l' r r' _ hl => by simp at hl, fun l r hl => by simp at hl, fun l r hl => by simp at hl, fun b hb => by
      rcases hb with hb | hb
      · exact Nat.lt_of_lt_of_le (hm.lt b hb) hx.size
      · exact hb.2, fun l r hl => by simp at hl, fun l l' r r' _ hl => by simp at hl⟩, hx.os, hx.tape, hx.output, hx.size, fun b hb _ => hx.block b hb, fun b cs T fz hb => by
      have hb : w.heap[b]? = some (Obj.cells cs T fz) := hb
      have hlt : b < w.heap.size := by
        by_cases hlt : b < w.heap.size
        · exact hlt
        · rw [Array.getElem?_eq_none (by omega)] at hb; cases hb
      exact ⟨cs, by rw [hx.block b hlt]; exact hb, rfl⟩, fun b hb hlt => by
      rcases hb with hb | hb
      · exact hb
      · exact absurd (show b < w.heap.size from hlt) (Nat.not_lt.2 hb.1), fun b hb => .inl hb, fun l r hl => by simp at hl, fun l r hl => by simp at hl, Nat.le_refl _, fun l hl => rfl, fun l r hl => by simp at hl, hG.mono (fun b hb => .inl hb) (hx.tr hm.lt)⟩
section
variable {G : Pg} {N : Nat} {Γ : Fr} {st : PSt} {K : Exit → PSt → Prop} {c : Code}
theorem w1 {n id : Nat} (h : K (.exit id) st) : Kround G N Γ c K n (.exit id) st := kround_exit h
theorem w2 {n : Nat} (h : K .ret st) : Kround G N Γ c K n .ret st := kround_ret h
theorem w3 {n : Nat} (h : PWp G N Γ c st (Kround G N Γ c K n)) : Kround G N Γ c K (n + 1) .normal st := kround_next h
theorem w4 {J : Nat → PSt → Prop} {n : Nat} (h : K .ret st) : Kloop N Γ J n K .ret st := kloop_ret h
theorem w5 {J : Nat → PSt → Prop} {n id : Nat} (h : K (.exit id) st) : Kloop N Γ J n K (.exit id) st := kloop_exit h
theorem w6 {M : PSt → Prop} (h : K .ret st) : Kcut N Γ M K .ret st := kcut_ret h
theorem w7 {M : PSt → Prop} {id : Nat} (h : K (.exit id) st) : Kcut N Γ M K (.exit id) st := kcut_exit h
theorem w8 {o : Operand} {x y : Code} (h : PWp G N Γ x st K) (hc : st.ev o = .val (.bool true) := by exact rfl) : PWp G N Γ (.cond o x y) st K := pcond_t hc h
theorem w9 {o : Operand} {x y : Code} (h : PWp G N Γ y st K) (hc : st.ev o = .val (.bool false) := by exact rfl) : PWp G N Γ (.cond o x y) st K := pcond_f hc h
theorem wA {p : Prop} {ps : List Prop} (h : p) (h2 : AllP ps) : AllP (p :: ps) := ⟨h, h2⟩
end
section
variable {G : Pg2} {N : Nat} {Γ : Fr} {K : Exit → PSt → Prop} {ops : Array Oper} {H : List Nat} {ni fin : Bool} {m : Nat} {st st' : PSt} {sch sch' : Sched} {ls ls' : Array Bool} {ps : List Prop} {o : Oper} {i : Nat}
theorem ys (hp : AllP ps) (hk : PS G N Γ ops H ni fin sch' m ls' st' K) (h : exSch G.tab G.eqs Γ.k0 N ops H ni sch false ls st [] = some (sch', ls', st', ps) := by exact rfl) : PS G N Γ ops H ni fin sch m ls st K := xs h hp hk
theorem yl {ch : List Nat} {p : Prop} (hp : p) (hk : K .normal st') (hlast : lastB ops i = true := by exact rfl) (hi : opAt ops.toList i = some o := by exact rfl) (hs : stepOp G.tab G.eqs Γ.k0 N ops st o = some (st', p, ch) := by exact rfl) : PS G N Γ ops H ni true [.one i] m ls st K := xs_last hlast hi (stepOp_pst hs hp hk)
end
/-! shorter words: one for all the ways on, one for all kinds of calls -/
structure Y2 (A B : Prop) : Prop where
  a : A
  b : B
section
variable {G : Pg2} {N : Nat} {Γ : Fr} {K : Exit → PSt → Prop} {c : Code} {ops : Array Oper} {l : List Oper} {e : Exit} {st st' : PSt} {s s' : List Fm} {ps : List Prop} {c' : Ctl} {H : List Nat} {ni fin : Bool} {m : Nat} {sch sch' : Sched} {ls ls' : Array Bool} {o : Oper} {i : Nat} {ch : List Nat} {p : Prop}
theorem yoY (h : Y2 (AllP ps) (PX G N Γ K c' st' s')) (hx : exec G.tab G.eqs Γ.k0 N 4000 false (.ops ops l) st s [] = some (c', st', s', ps) := by exact rfl) : POps G.toPg N Γ ops l st (stk G N Γ K s) := yo h.a h.b hx
theorem ywY (h : Y2 (AllP ps) (PX G N Γ K c' st' s')) (hx : exec G.tab G.eqs Γ.k0 N 4000 false (.code c) st s [] = some (c', st', s', ps) := by exact rfl) : PWp G.toPg N Γ c st (stk G N Γ K s) := yw h.a h.b hx
theorem ykY (h : Y2 (AllP ps) (PX G N Γ K c' st' s')) (hx : exec G.tab G.eqs Γ.k0 N 4000 false (.ex e) st s [] = some (c', st', s', ps) := by exact rfl) : stk G N Γ K s e st := yk h.a h.b hx
theorem yo0Y (h : Y2 (AllP ps) (PX G N Γ K c' st' s')) (hx : exec G.tab G.eqs Γ.k0 N 4000 false (.ops ops l) st [] [] = some (c', st', s', ps) := by exact rfl) : POps G.toPg N Γ ops l st K := yo0 h.a h.b hx
theorem yw0Y (h : Y2 (AllP ps) (PX G N Γ K c' st' s')) (hx : exec G.tab G.eqs Γ.k0 N 4000 false (.code c) st [] [] = some (c', st', s', ps) := by exact rfl) : PWp G.toPg N Γ c st K := yw0 h.a h.b hx
theorem ysY (h : Y2 (AllP ps) (PS G N Γ ops H ni fin sch' m ls' st' K)) (hx : exSch G.tab G.eqs Γ.k0 N ops H ni sch false ls st [] = some (sch', ls', st', ps) := by exact rfl) : PS G N Γ ops H ni fin sch m ls st K := ys h.a h.b hx
theorem ylY (h : Y2 p (K .normal st')) (hlast : lastB ops i = true := by exact rfl) (hi : opAt ops.toList i = some o := by exact rfl) (hs : stepOp G.tab G.eqs Γ.k0 N ops st o = some (st', p, ch) := by exact rfl) : PS G N Γ ops H ni true [.one i] m ls st K := yl h.a h.b hlast hi hs
end
theorem gg {P Q : Prop} (h : Q) (k : Q → P := by first | exact fun h => yoY h | exact fun h => ywY h | exact fun h => ykY h | exact fun h => ysY h | exact fun h => xs_done h | exact fun h => ylY h | fail) : P := k h
theorem gh {P Q : Prop} (h : Q) (k : Q → P := by first | exact fun h => w8 h | exact fun h => w9 h | exact fun h => w1 h | exact fun h => w2 h | exact fun h => w3 h | exact fun h => w4 h | exact fun h => w5 h | exact fun h => w6 h | exact fun h => w7 h | exact fun h => yo0Y h | exact fun h => yw0Y h | fail) : P := k h
theorem zz {Pr : Program} {f : FuncId} {qs : List PV} {X : PV} {P Q : Prop} (hc : PureC Pr f qs (fun r => r = X)) (h : Q) (k : PureC Pr f qs (fun r => r = X) → Q → P := by first | exact fun hc h => z1 hc h | exact fun hc h => z2 hc h | exact fun hc h => z3 hc h | exact fun hc h => z4 hc h | exact fun hc h => z5 hc h | fail) : P := k hc h
end Go.Proofs.YtcefhgomkehokaaGreat
set_option maxRecDepth 100000
namespace Go.Proofs.YtcefhgomkehokaaGreat
theorem gcd_c (a b : Nat) (ha : a < 18446744073709551616) (hb : b < 18446744073709551616) : PureC G.P 139 [vu a, vu b] (fun r => r = vu (Nat.gcd a b)) := by
  refine pure_of (G := G.toPg) (fn := Tryz.f139) Tryz.func139 rfl rfl rfl ?_; intro Γ hk
  repeat' (first | ((with_reducible (show POps _ _ _ _ (_ :: _) _ _)); (first | refine pop_read rfl rfl rfl rfl trivial ?_ | refine pop_guard rfl rfl rfl rfl rfl qgd ?_ | refine pop_new rfl rfl rfl rfl trivial ?_ | refine pop_store rfl rfl rfl Nat.zero_lt_one ?_ | refine pop_read rfl rfl rfl rfl qrd ?_ | refine pop_read2 rfl rfl rfl rfl trivial ?_ | refine pop_store rfl rfl rfl qst ?_ | fail)) | refine pnil ?_ | refine kround_exit ?_ | refine kround_ret ?_ | refine kround_next ?_ | refine kseq_normal ?_ | refine pseq ?_ | refine pregion ?_ | refine pret ?_ | refine kseq_ret ?_ | refine pskip ?_ | refine pblock ?_ | refine pexit ?_ | refine kseq_exit ?_ | refine kblock_hit rfl ?_ | refine kblock_miss rfl ?_ | refine kblock_ret ?_ | refine kblock_normal ?_ | refine kloop_ret ?_ | refine kloop_exit ?_ | refine kcut_ret ?_ | refine kcut_exit ?_ | refine pcond_t rfl ?_ | refine pcond_f rfl ?_ | (with_reducible (show POps _ _ _ _ _ _ _); simp only [List.append_eq, List.cons_append, List.nil_append]))
  refine pcan (can_sel [0, 1]) ?_
  refine ploop (fun n st => ∃ p q : Nat, Nat.gcd p q = Nat.gcd a b ∧ p < 18446744073709551616 ∧ q < 18446744073709551616 ∧ q = n ∧ st = ⟨[(0, vu p), (1, vu q)], []⟩) b ⟨a, b, rfl, ha, hb, rfl, rfl⟩ ?_
  rintro _ _ ⟨p, q, hg, hp, hq, rfl, rfl⟩
  repeat' (first | ((with_reducible (show POps _ _ _ _ (_ :: _) _ _)); (first | refine pop_read rfl rfl rfl rfl trivial ?_ | refine pop_guard rfl rfl rfl rfl rfl qgd ?_ | refine pop_new rfl rfl rfl rfl trivial ?_ | refine pop_store rfl rfl rfl Nat.zero_lt_one ?_ | refine pop_read rfl rfl rfl rfl qrd ?_ | refine pop_read2 rfl rfl rfl rfl trivial ?_ | refine pop_store rfl rfl rfl qst ?_ | fail)) | refine pnil ?_ | refine kround_exit ?_ | refine kround_ret ?_ | refine kround_next ?_ | refine kseq_normal ?_ | refine pseq ?_ | refine pregion ?_ | refine pret ?_ | refine kseq_ret ?_ | refine pskip ?_ | refine pblock ?_ | refine pexit ?_ | refine kseq_exit ?_ | refine kblock_hit rfl ?_ | refine kblock_miss rfl ?_ | refine kblock_ret ?_ | refine kblock_normal ?_ | refine kloop_ret ?_ | refine kloop_exit ?_ | refine kcut_ret ?_ | refine kcut_exit ?_ | refine pcond_t rfl ?_ | refine pcond_f rfl ?_ | (with_reducible (show POps _ _ _ _ _ _ _); simp only [List.append_eq, List.cons_append, List.nil_append]))
  refine pcond rfl ?_ ?_ <;> intro hc
  · have hq0 : (q : Int) ≠ 0 := by simpa using hc
    repeat' (first | ((with_reducible (show POps _ _ _ _ (_ :: _) _ _)); (first | refine pop_read rfl rfl rfl rfl trivial ?_ | refine pop_guard rfl rfl rfl rfl rfl qgd ?_ | refine pop_new rfl rfl rfl rfl trivial ?_ | refine pop_store rfl rfl rfl Nat.zero_lt_one ?_ | refine pop_read rfl rfl rfl rfl qrd ?_ | refine pop_read2 rfl rfl rfl rfl trivial ?_ | refine pop_store rfl rfl rfl qst ?_ | fail)) | refine pnil ?_ | refine kround_exit ?_ | refine kround_ret ?_ | refine kround_next ?_ | refine kseq_normal ?_ | refine pseq ?_ | refine pregion ?_ | refine pret ?_ | refine kseq_ret ?_ | refine pskip ?_ | refine pblock ?_ | refine pexit ?_ | refine kseq_exit ?_ | refine kblock_hit rfl ?_ | refine kblock_miss rfl ?_ | refine kblock_ret ?_ | refine kblock_normal ?_ | refine kloop_ret ?_ | refine kloop_exit ?_ | refine kcut_ret ?_ | refine kcut_exit ?_ | refine pcond_t rfl ?_ | refine pcond_f rfl ?_ | (with_reducible (show POps _ _ _ _ _ _ _); simp only [List.append_eq, List.cons_append, List.nil_append]))
    (refine any_start [] 6 rfl ?_); (first | refine aT 0 ?_ | refine aT2 0 ?_ | (refine aC 0 ?_ ?_; rotate_left)); (first | refine aT 1 ?_ | refine aT2 1 ?_ | (refine aC 1 ?_ ?_; rotate_left)); (first | refine aT 2 ?_ | refine aT2 2 ?_ | (refine aC 2 ?_ ?_; rotate_left)); (first | refine aT 3 ?_ | refine aT2 3 ?_ | (refine aC 3 ?_ ?_; rotate_left)); (first | refine aT 4 ?_ | refine aT2 4 ?_ | (refine aC 4 ?_ ?_; rotate_left)); (first | refine aT 5 ?_ | refine aT2 5 ?_ | (refine aC 5 ?_ ?_; rotate_left)); (refine any_done (by kernel_rfl) ?_)
    repeat' (first | ((with_reducible (show POps _ _ _ _ (_ :: _) _ _)); (first | refine pop_read rfl rfl rfl rfl trivial ?_ | refine pop_guard rfl rfl rfl rfl rfl qgd ?_ | refine pop_new rfl rfl rfl rfl trivial ?_ | refine pop_store rfl rfl rfl Nat.zero_lt_one ?_ | refine pop_read rfl rfl rfl rfl qrd ?_ | refine pop_read2 rfl rfl rfl rfl trivial ?_ | refine pop_store rfl rfl rfl qst ?_ | fail)) | refine pnil ?_ | refine kround_exit ?_ | refine kround_ret ?_ | refine kround_next ?_ | refine kseq_normal ?_ | refine pseq ?_ | refine pregion ?_ | refine pret ?_ | refine kseq_ret ?_ | refine pskip ?_ | refine pblock ?_ | refine pexit ?_ | refine kseq_exit ?_ | refine kblock_hit rfl ?_ | refine kblock_miss rfl ?_ | refine kblock_ret ?_ | refine kblock_normal ?_ | refine kloop_ret ?_ | refine kloop_exit ?_ | refine kcut_ret ?_ | refine kcut_exit ?_ | refine pcond_t rfl ?_ | refine pcond_f rfl ?_ | (with_reducible (show POps _ _ _ _ _ _ _); simp only [List.append_eq, List.cons_append, List.nil_append]))
    have hlt : p % q < q := Nat.mod_lt _ (by omega)
    exact kloop_next (p % q) (can_sel [0, 1]) hlt ⟨q, p % q, (gcd_step p q).trans hg, hq, by omega, rfl, rfl⟩
  · have hq0 : q = 0 := by simpa using hc
    subst hq0
    repeat' (first | ((with_reducible (show POps _ _ _ _ (_ :: _) _ _)); (first | refine pop_read rfl rfl rfl rfl trivial ?_ | refine pop_guard rfl rfl rfl rfl rfl qgd ?_ | refine pop_new rfl rfl rfl rfl trivial ?_ | refine pop_store rfl rfl rfl Nat.zero_lt_one ?_ | refine pop_read rfl rfl rfl rfl qrd ?_ | refine pop_read2 rfl rfl rfl rfl trivial ?_ | refine pop_store rfl rfl rfl qst ?_ | fail)) | refine pnil ?_ | refine kround_exit ?_ | refine kround_ret ?_ | refine kround_next ?_ | refine kseq_normal ?_ | refine pseq ?_ | refine pregion ?_ | refine pret ?_ | refine kseq_ret ?_ | refine pskip ?_ | refine pblock ?_ | refine pexit ?_ | refine kseq_exit ?_ | refine kblock_hit rfl ?_ | refine kblock_miss rfl ?_ | refine kblock_ret ?_ | refine kblock_normal ?_ | refine kloop_ret ?_ | refine kloop_exit ?_ | refine kcut_ret ?_ | refine kcut_exit ?_ | refine pcond_t rfl ?_ | refine pcond_f rfl ?_ | (with_reducible (show POps _ _ _ _ _ _ _); simp only [List.append_eq, List.cons_append, List.nil_append]))
    exact kretv rfl ⟨trivial, trivial⟩ rfl (eqI (by rw [← hg]; simp))
theorem gcdI_c (a b : Int) (ha0 : 0 ≤ a) (ha : a < 18446744073709551616) (hb0 : 0 ≤ b) (hb : b < 18446744073709551616) : PureC G.P 139 [vu a, vu b] (fun r => r = vu (Int.gcd a b)) := by
  obtain ⟨a, rfl⟩ := Int.eq_ofNat_of_zero_le ha0
  obtain ⟨b, rfl⟩ := Int.eq_ofNat_of_zero_le hb0
  exact gcd_c a b (by omega) (by omega)
theorem magnitude_c (n : Int) (h1 : -9223372036854775808 ≤ n) (h2 : n ≤ 9223372036854775807) : PureC G.P 140 [vi n] (fun r => r = vu n.natAbs) := by
  refine pure_of (G := G.toPg) (fn := Tryz.f140) Tryz.func140 rfl rfl rfl ?_; intro Γ hk
  repeat' (first | ((with_reducible (show POps _ _ _ _ (_ :: _) _ _)); (first | refine pop_read rfl rfl rfl rfl trivial ?_ | refine pop_guard rfl rfl rfl rfl rfl qgd ?_ | refine pop_new rfl rfl rfl rfl trivial ?_ | refine pop_store rfl rfl rfl Nat.zero_lt_one ?_ | refine pop_read rfl rfl rfl rfl qrd ?_ | refine pop_read2 rfl rfl rfl rfl trivial ?_ | refine pop_store rfl rfl rfl qst ?_ | fail)) | refine pnil ?_ | refine kround_exit ?_ | refine kround_ret ?_ | refine kround_next ?_ | refine kseq_normal ?_ | refine pseq ?_ | refine pregion ?_ | refine pret ?_ | refine kseq_ret ?_ | refine pskip ?_ | refine pblock ?_ | refine pexit ?_ | refine kseq_exit ?_ | refine kblock_hit rfl ?_ | refine kblock_miss rfl ?_ | refine kblock_ret ?_ | refine kblock_normal ?_ | refine kloop_ret ?_ | refine kloop_exit ?_ | refine kcut_ret ?_ | refine kcut_exit ?_ | refine pcond_t rfl ?_ | refine pcond_f rfl ?_ | (with_reducible (show POps _ _ _ _ _ _ _); simp only [List.append_eq, List.cons_append, List.nil_append]))
  refine pcond rfl ?_ ?_ <;> intro hc
  · have hc : n < 0 := by simpa using hc
    repeat' (first | ((with_reducible (show POps _ _ _ _ (_ :: _) _ _)); (first | refine pop_read rfl rfl rfl rfl trivial ?_ | refine pop_guard rfl rfl rfl rfl rfl qgd ?_ | refine pop_new rfl rfl rfl rfl trivial ?_ | refine pop_store rfl rfl rfl Nat.zero_lt_one ?_ | refine pop_read rfl rfl rfl rfl qrd ?_ | refine pop_read2 rfl rfl rfl rfl trivial ?_ | refine pop_store rfl rfl rfl qst ?_ | fail)) | refine pnil ?_ | refine kround_exit ?_ | refine kround_ret ?_ | refine kround_next ?_ | refine kseq_normal ?_ | refine pseq ?_ | refine pregion ?_ | refine pret ?_ | refine kseq_ret ?_ | refine pskip ?_ | refine pblock ?_ | refine pexit ?_ | refine kseq_exit ?_ | refine kblock_hit rfl ?_ | refine kblock_miss rfl ?_ | refine kblock_ret ?_ | refine kblock_normal ?_ | refine kloop_ret ?_ | refine kloop_exit ?_ | refine kcut_ret ?_ | refine kcut_exit ?_ | refine pcond_t rfl ?_ | refine pcond_f rfl ?_ | (with_reducible (show POps _ _ _ _ _ _ _); simp only [List.append_eq, List.cons_append, List.nil_append]))
    refine kretv rfl ⟨trivial, trivial⟩ rfl (eqI ?_)
    rw [wu64n hc (by omega), wu64n (by omega) (by omega)]; omega
  · have hc : 0 ≤ n := by simpa using hc
    repeat' (first | ((with_reducible (show POps _ _ _ _ (_ :: _) _ _)); (first | refine pop_read rfl rfl rfl rfl trivial ?_ | refine pop_guard rfl rfl rfl rfl rfl qgd ?_ | refine pop_new rfl rfl rfl rfl trivial ?_ | refine pop_store rfl rfl rfl Nat.zero_lt_one ?_ | refine pop_read rfl rfl rfl rfl qrd ?_ | refine pop_read2 rfl rfl rfl rfl trivial ?_ | refine pop_store rfl rfl rfl qst ?_ | fail)) | refine pnil ?_ | refine kround_exit ?_ | refine kround_ret ?_ | refine kround_next ?_ | refine kseq_normal ?_ | refine pseq ?_ | refine pregion ?_ | refine pret ?_ | refine kseq_ret ?_ | refine pskip ?_ | refine pblock ?_ | refine pexit ?_ | refine kseq_exit ?_ | refine kblock_hit rfl ?_ | refine kblock_miss rfl ?_ | refine kblock_ret ?_ | refine kblock_normal ?_ | refine kloop_ret ?_ | refine kloop_exit ?_ | refine kcut_ret ?_ | refine kcut_exit ?_ | refine pcond_t rfl ?_ | refine pcond_f rfl ?_ | (with_reducible (show POps _ _ _ _ _ _ _); simp only [List.append_eq, List.cons_append, List.nil_append]))
    refine kretv rfl ⟨trivial, trivial⟩ rfl (eqI ?_)
    rw [wu64 hc (by omega)]; omega
theorem ratioValid_c (n d : Int) (h1 : -9223372036854775808 ≤ n) (h2 : n ≤ 9223372036854775807) : PureC G.P 135 [vr n d] (fun r => r = vb (okR n d)) := by
  refine pure_of (G := G.toPg) (fn := Tryz.f135) Tryz.func135 rfl rfl rfl ?_; intro Γ hk
  repeat' (first | ((with_reducible (show POps _ _ _ _ (_ :: _) _ _)); (first | refine pop_read rfl rfl rfl rfl trivial ?_ | refine pop_guard rfl rfl rfl rfl rfl qgd ?_ | refine pop_new rfl rfl rfl rfl trivial ?_ | refine pop_store rfl rfl rfl Nat.zero_lt_one ?_ | refine pop_read rfl rfl rfl rfl qrd ?_ | refine pop_read2 rfl rfl rfl rfl trivial ?_ | refine pop_store rfl rfl rfl qst ?_ | fail)) | refine pnil ?_ | refine kround_exit ?_ | refine kround_ret ?_ | refine kround_next ?_ | refine kseq_normal ?_ | refine pseq ?_ | refine pregion ?_ | refine pret ?_ | refine kseq_ret ?_ | refine pskip ?_ | refine pblock ?_ | refine pexit ?_ | refine kseq_exit ?_ | refine kblock_hit rfl ?_ | refine kblock_miss rfl ?_ | refine kblock_ret ?_ | refine kblock_normal ?_ | refine kloop_ret ?_ | refine kloop_exit ?_ | refine kcut_ret ?_ | refine kcut_exit ?_ | refine pcond_t rfl ?_ | refine pcond_f rfl ?_ | (with_reducible (show POps _ _ _ _ _ _ _); simp only [List.append_eq, List.cons_append, List.nil_append]))
  refine pcond rfl ?_ ?_ <;> intro hc
  · repeat' (first | ((with_reducible (show POps _ _ _ _ (_ :: _) _ _)); (first | refine pop_read rfl rfl rfl rfl trivial ?_ | refine pop_guard rfl rfl rfl rfl rfl qgd ?_ | refine pop_new rfl rfl rfl rfl trivial ?_ | refine pop_store rfl rfl rfl Nat.zero_lt_one ?_ | refine pop_read rfl rfl rfl rfl qrd ?_ | refine pop_read2 rfl rfl rfl rfl trivial ?_ | refine pop_store rfl rfl rfl qst ?_ | fail)) | refine pnil ?_ | refine kround_exit ?_ | refine kround_ret ?_ | refine kround_next ?_ | refine kseq_normal ?_ | refine pseq ?_ | refine pregion ?_ | refine pret ?_ | refine kseq_ret ?_ | refine pskip ?_ | refine pblock ?_ | refine pexit ?_ | refine kseq_exit ?_ | refine kblock_hit rfl ?_ | refine kblock_miss rfl ?_ | refine kblock_ret ?_ | refine kblock_normal ?_ | refine kloop_ret ?_ | refine kloop_exit ?_ | refine kcut_ret ?_ | refine kcut_exit ?_ | refine pcond_t rfl ?_ | refine pcond_f rfl ?_ | (with_reducible (show POps _ _ _ _ _ _ _); simp only [List.append_eq, List.cons_append, List.nil_append]))
    refine kretv rfl ⟨trivial, trivial⟩ rfl (eqB ?_)
    simp at hc
    symm; simp only [okR, decide_eq_false_iff_not]; omega
  · simp at hc
    repeat' (first | ((with_reducible (show POps _ _ _ _ (_ :: _) _ _)); (first | refine pop_read rfl rfl rfl rfl trivial ?_ | refine pop_guard rfl rfl rfl rfl rfl qgd ?_ | refine pop_new rfl rfl rfl rfl trivial ?_ | refine pop_store rfl rfl rfl Nat.zero_lt_one ?_ | refine pop_read rfl rfl rfl rfl qrd ?_ | refine pop_read2 rfl rfl rfl rfl trivial ?_ | refine pop_store rfl rfl rfl qst ?_ | fail)) | refine pnil ?_ | refine kround_exit ?_ | refine kround_ret ?_ | refine kround_next ?_ | refine kseq_normal ?_ | refine pseq ?_ | refine pregion ?_ | refine pret ?_ | refine kseq_ret ?_ | refine pskip ?_ | refine pblock ?_ | refine pexit ?_ | refine kseq_exit ?_ | refine kblock_hit rfl ?_ | refine kblock_miss rfl ?_ | refine kblock_ret ?_ | refine kblock_normal ?_ | refine kloop_ret ?_ | refine kloop_exit ?_ | refine kcut_ret ?_ | refine kcut_exit ?_ | refine pcond_t rfl ?_ | refine pcond_f rfl ?_ | (with_reducible (show POps _ _ _ _ _ _ _); simp only [List.append_eq, List.cons_append, List.nil_append]))
    (refine any_start [0] 9 rfl ?_); (first | refine aT 0 ?_ | refine aT2 0 ?_ | (refine aC 0 ?_ ?_; rotate_left)); (first | refine aT 1 ?_ | refine aT2 1 ?_ | (refine aC 1 ?_ ?_; rotate_left)); (first | refine aT 3 ?_ | refine aT2 3 ?_ | (refine aC 3 ?_ ?_; rotate_left)); (first | refine aT 4 ?_ | refine aT2 4 ?_ | (refine aC 4 ?_ ?_; rotate_left)); (first | refine aT 5 ?_ | refine aT2 5 ?_ | (refine aC 5 ?_ ?_; rotate_left)); (refine aO 2 rfl (ch := [])  (pst_callv rfl rfl rfl rfl rfl (magnitude_c _ h1 h2) rfl rfl rfl ?_)); (refine aO 6 rfl (ch := [])  (pst_callv rfl rfl rfl rfl rfl (gcdI_c _ _ (by omega) (by omega) (by rw [wu64 (by omega) (by omega)]; omega) (by rw [wu64 (by omega) (by omega)]; omega)) rfl rfl rfl ?_)); (first | refine aT 7 ?_ | refine aT2 7 ?_ | (refine aC 7 ?_ ?_; rotate_left)); (first | refine aT 8 ?_ | refine aT2 8 ?_ | (refine aC 8 ?_ ?_; rotate_left)); (refine any_done (by kernel_rfl) ?_)
    repeat' (first | ((with_reducible (show POps _ _ _ _ (_ :: _) _ _)); (first | refine pop_read rfl rfl rfl rfl trivial ?_ | refine pop_guard rfl rfl rfl rfl rfl qgd ?_ | refine pop_new rfl rfl rfl rfl trivial ?_ | refine pop_store rfl rfl rfl Nat.zero_lt_one ?_ | refine pop_read rfl rfl rfl rfl qrd ?_ | refine pop_read2 rfl rfl rfl rfl trivial ?_ | refine pop_store rfl rfl rfl qst ?_ | fail)) | refine pnil ?_ | refine kround_exit ?_ | refine kround_ret ?_ | refine kround_next ?_ | refine kseq_normal ?_ | refine pseq ?_ | refine pregion ?_ | refine pret ?_ | refine kseq_ret ?_ | refine pskip ?_ | refine pblock ?_ | refine pexit ?_ | refine kseq_exit ?_ | refine kblock_hit rfl ?_ | refine kblock_miss rfl ?_ | refine kblock_ret ?_ | refine kblock_normal ?_ | refine kloop_ret ?_ | refine kloop_exit ?_ | refine kcut_ret ?_ | refine kcut_exit ?_ | refine pcond_t rfl ?_ | refine pcond_f rfl ?_ | (with_reducible (show POps _ _ _ _ _ _ _); simp only [List.append_eq, List.cons_append, List.nil_append]))
    refine kretv rfl ⟨trivial, trivial⟩ rfl (eqB ?_)
    rw [wu64 (by omega) (by omega), Bool.eq_iff_iff]
    have hg : Int.gcd (n.natAbs : Int) d = Int.gcd n d := by simp [Int.gcd]
    simp only [okR, hg]
    simp
    omega
end Go.Proofs.YtcefhgomkehokaaGreat
