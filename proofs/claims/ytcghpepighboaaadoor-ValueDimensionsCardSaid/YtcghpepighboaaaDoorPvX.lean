/- Walking by evaluation: straight code in one step. -/
import Derived.Test.YtcghpepighboaaaDoorPvN
set_option linter.unusedSimpArgs false
set_option linter.unusedVariables false
namespace Go.Proofs.YtcghpepighboaaaDoor
open Go.RowKit
def AllP : List Prop → Prop
  | [] => True
  | p :: ps => p ∧ AllP ps
def isJ : PV → Bool
  | .opt _ .junk => true
  | _ => false
def isNilS : PV → Bool
  | .val (.slice none _ _) => true
  | _ => false
def deadB (st : PSt) : Op → Bool
  | .indexAddr _ x y => isJ (st.ev x) || (isNilS (str (st.ev x)) || isJ (st.ev y))
  | .fieldAddr _ x _ => isJ (st.ev x)
  | .field _ x _ => isJ (st.ev x)
  | .load _ x => isJ (st.ev x)
  | .binOp _ _ x y _ => isJ (st.ev x) || isJ (st.ev y)
  | .unOp _ _ x => isJ (st.ev x)
  | .call c => match c.callee with
    | .builtin _ => c.args.toList.any fun x => isJ (st.ev x)
    | _ => false
  | _ => false
theorem cond_none {α : Type} {b : Bool} {x : Option α} {y : α} (h : (cond b none x) = some y) : b = false ∧ x = some y := by
  cases b
  · exact ⟨rfl, h⟩
  · cases h
def stepOp (tab : List TI) (eqs : List Nat) (k0 N : Nat) (ops : Array Oper) (st : PSt) (o : Oper) : Option (PSt × Prop × List Nat) :=
  match o.guard with
  | none => match o.dst with
    | some d => cond (Nat.blt d N) (match pread tab st o.op with
      | some (r, p) => some (st.put d r, p, [])
      | none => match pread2 tab eqs st o.op with
        | some (r, p) => some (st.put d r, p, [])
        | none => match pnew tab st o.op with
          | some (r, m, p) => some (PSt.put ⟨st.tm, m⟩ d r, p, [])
          | none => match pmake tab st o.op with
            | some (r, m, p) => some (PSt.put ⟨st.tm, m⟩ d r, p, [])
            | none => match papp tab k0 st o.op with
              | some (r, m, p) => some (PSt.put ⟨st.tm, m⟩ d r, p, appL st o.op)
              | none => none) none
    | none => match pstore tab st o.op, stL st o.op with
      | some (m, p), some l => some (⟨st.tm, m⟩, p, [l])
      | _, _ => none
  | some (j, want) => match o.dst with
    | some d => cond (Nat.blt d N) (match gval ops st j want with
      | some g => match pread tab st o.op with
        | some (r, p) => some (st.put d (.opt g (str r)), g = true → strP r p, [])
        | none => match pread2 tab eqs st o.op with
          | some (r, p) => some (st.put d (.opt g r), g = true → p, [])
          | none => cond (deadB st o.op) (cond g none (some (st.put d (.opt false .junk), True, []))) none
      | none => none) none
    | none => none
section
variable {G : Pg2} {N : Nat} {Γ : Fr} {st st' : PSt} {K : Exit → PSt → Prop} {K' : PSt → Prop} {ops : Array Oper} {o : Oper} {rest : List Oper} {d : Nat} {r : PV} {p : Prop} {ch : List Nat}
theorem pop_gfalse {j : Nat} {want : Bool} (hg : o.guard = some (j, want)) (hd : o.dst = some d) (hN : Nat.blt d N = true) (hgv : gval ops st j want = some false) (h : POps G.toPg N Γ ops rest (st.put d (.opt false .junk)) K) : POps G.toPg N Γ ops (o :: rest) st K := .mk fun ρ I a w hrel => by
  have hw := gval_sound hrel hg hgv
  simp only [wpList, hw, Bool.false_eq_true, if_false, hd]
  exact h.go ρ I _ w (hrel.put (by rwa [Nat.blt_eq] at hN) ⟨by simp, fun _ => rfl⟩)
theorem pst_gfalse {j : Nat} {want : Bool} (hg : o.guard = some (j, want)) (hd : o.dst = some d) (hN : Nat.blt d N = true) (hgv : gval ops st j want = some false) (h : K' (st.put d (.opt false .junk))) : PStep G N Γ ops o st [] true K' := .mk fun ρ I a w hrel Q => by
  have hw := gval_sound hrel hg hgv
  rw [if_neg (by rw [hw]; simp)]
  simp only [hd]
  exact ⟨_, ρ, I, h, hrel.put (by rwa [Nat.blt_eq] at hN) ⟨by simp, fun _ => rfl⟩, Chg.refl (Ext.refl w) d _⟩
theorem stepOp_sound (h : stepOp G.tab G.eqs Γ.k0 N ops st o = some (st', p, ch)) (hp : p) (hk : POps G.toPg N Γ ops rest st' K) : POps G.toPg N Γ ops (o :: rest) st K := by
  unfold stepOp at h
  split at h
  · rename_i hg
    split at h
    · rename_i d hd
      obtain ⟨hN, h⟩ := cond_some h
      split at h
      · rename_i hr
        simp only [Option.some.injEq, Prod.mk.injEq] at h
        obtain ⟨rfl, rfl, rfl⟩ := h
        exact pop_read hg hd hN hr hp hk
      · split at h
        · rename_i hr
          simp only [Option.some.injEq, Prod.mk.injEq] at h
          obtain ⟨rfl, rfl, rfl⟩ := h
          exact pop_read2 hg hd hN hr hp hk
        · split at h
          · rename_i hr
            simp only [Option.some.injEq, Prod.mk.injEq] at h
            obtain ⟨rfl, rfl, rfl⟩ := h
            exact pop_new hg hd hN hr hp hk
          · split at h
            · rename_i hr
              simp only [Option.some.injEq, Prod.mk.injEq] at h
              obtain ⟨rfl, rfl, rfl⟩ := h
              exact pop_make hg hd hN hr hp hk
            · split at h
              · rename_i hr
                simp only [Option.some.injEq, Prod.mk.injEq] at h
                obtain ⟨rfl, rfl, rfl⟩ := h
                exact pop_app hg hd hN hr hp hk
              · cases h
    · rename_i hd
      split at h
      · rename_i hr hl
        simp only [Option.some.injEq, Prod.mk.injEq] at h
        obtain ⟨rfl, rfl, rfl⟩ := h
        exact pop_store hg hd hr hp hk
      · cases h
  · rename_i j want hg
    split at h
    · rename_i d hd
      obtain ⟨hN, h⟩ := cond_some h
      split at h
      · rename_i g hgv
        split at h
        · rename_i hr
          simp only [Option.some.injEq, Prod.mk.injEq] at h
          obtain ⟨rfl, rfl, rfl⟩ := h
          exact pop_guard hg hd hN hgv hr hp hk
        · split at h
          · rename_i hr
            simp only [Option.some.injEq, Prod.mk.injEq] at h
            obtain ⟨rfl, rfl, rfl⟩ := h
            exact pop_guard2 hg hd hN hgv hr hp hk
          · obtain ⟨_, h⟩ := cond_some h
            obtain ⟨hg0, h2⟩ := cond_none h
            subst hg0
            simp only [Option.some.injEq, Prod.mk.injEq] at h2
            obtain ⟨rfl, rfl, rfl⟩ := h2
            exact pop_gfalse hg hd hN hgv hk
      · cases h
    · cases h
theorem pst_read2 {pre : Prop} (hg : o.guard = none) (hd : o.dst = some d) (hN : Nat.blt d N = true) (hr : pread2 G.tab G.eqs st o.op = some (r, pre)) (hp : pre) (h : K' (st.put d r)) : PStep G N Γ ops o st [] true K' := .mk fun ρ I a w hrel Q => by
  obtain ⟨v, hv, hvr⟩ := pread2_sound G.ok G.eqsOk hrel o hr hp
  have hw : Region.wanted o (yielded ops a.tmps) = true := by simp [Region.wanted, hg]
  rw [if_pos hw]
  simp only [Oper.wp, hv w (SameOn.refl _ _ _ _ _), Oper.upon_value, hd]
  exact ⟨_, ρ, I, h, hrel.put (by rwa [Nat.blt_eq] at hN) hvr, Chg.refl (Ext.refl w) d r⟩
theorem pst_guard {pre : Prop} {j : Nat} {want g : Bool} (hg : o.guard = some (j, want)) (hd : o.dst = some d) (hN : Nat.blt d N = true) (hgv : gval ops st j want = some g) (hr : pread G.tab st o.op = some (r, pre)) (hp : g = true → strP r pre) (h : K' (st.put d (.opt g (str r)))) : PStep G N Γ ops o st [] true K' := .mk fun ρ I a w hrel Q => by
  have hw := gval_sound hrel hg hgv
  cases g
  · rw [if_neg (by rw [hw]; simp)]
    simp only [hd]
    exact ⟨_, ρ, I, h, hrel.put (by rwa [Nat.blt_eq] at hN) ⟨by simp, fun _ => rfl⟩, Chg.refl (Ext.refl w) d _⟩
  · obtain ⟨v, hv, hvr⟩ := pread_sound G.ok hrel o hr (strP_pre (hp rfl))
    have hvr := (str_rel hvr (hp rfl)).1
    rw [if_pos hw]
    simp only [Oper.wp, hv w (SameOn.refl _ _ _ _ _), Oper.upon_value, hd]
    exact ⟨_, ρ, I, h, hrel.put (by rwa [Nat.blt_eq] at hN) ⟨fun _ => hvr, by simp⟩, Chg.refl (Ext.refl w) d _⟩
theorem pst_guard2 {pre : Prop} {j : Nat} {want g : Bool} (hg : o.guard = some (j, want)) (hd : o.dst = some d) (hN : Nat.blt d N = true) (hgv : gval ops st j want = some g) (hr : pread2 G.tab G.eqs st o.op = some (r, pre)) (hp : g = true → pre) (h : K' (st.put d (.opt g r))) : PStep G N Γ ops o st [] true K' := .mk fun ρ I a w hrel Q => by
  have hw := gval_sound hrel hg hgv
  cases g
  · rw [if_neg (by rw [hw]; simp)]
    simp only [hd]
    exact ⟨_, ρ, I, h, hrel.put (by rwa [Nat.blt_eq] at hN) ⟨by simp, fun _ => rfl⟩, Chg.refl (Ext.refl w) d _⟩
  · obtain ⟨v, hv, hvr⟩ := pread2_sound G.ok G.eqsOk hrel o hr (hp rfl)
    rw [if_pos hw]
    simp only [Oper.wp, hv w (SameOn.refl _ _ _ _ _), Oper.upon_value, hd]
    exact ⟨_, ρ, I, h, hrel.put (by rwa [Nat.blt_eq] at hN) ⟨fun _ => hvr, by simp⟩, Chg.refl (Ext.refl w) d _⟩
theorem stepOp_pst (h : stepOp G.tab G.eqs Γ.k0 N ops st o = some (st', p, ch)) (hp : p) (hk : K' st') : PStep G N Γ ops o st ch true K' := by
  unfold stepOp at h
  split at h
  · rename_i hg
    split at h
    · rename_i d hd
      obtain ⟨hN, h⟩ := cond_some h
      split at h
      · rename_i hr
        simp only [Option.some.injEq, Prod.mk.injEq] at h
        obtain ⟨rfl, rfl, rfl⟩ := h
        exact pst_read hg hd hN hr hp hk
      · split at h
        · rename_i hr
          simp only [Option.some.injEq, Prod.mk.injEq] at h
          obtain ⟨rfl, rfl, rfl⟩ := h
          exact pst_read2 hg hd hN hr hp hk
        · split at h
          · rename_i hr
            simp only [Option.some.injEq, Prod.mk.injEq] at h
            obtain ⟨rfl, rfl, rfl⟩ := h
            exact pst_new hg hd hN hr hp hk
          · split at h
            · rename_i hr
              simp only [Option.some.injEq, Prod.mk.injEq] at h
              obtain ⟨rfl, rfl, rfl⟩ := h
              exact pst_make hg hd hN hr hp hk
            · split at h
              · rename_i hr
                simp only [Option.some.injEq, Prod.mk.injEq] at h
                obtain ⟨rfl, rfl, rfl⟩ := h
                exact pst_app hg hd hN hr hp rfl hk
              · cases h
    · rename_i hd
      split at h
      · rename_i hr hl
        simp only [Option.some.injEq, Prod.mk.injEq] at h
        obtain ⟨rfl, rfl, rfl⟩ := h
        exact pst_store hg hd hr hl hp hk
      · cases h
  · rename_i j want hg
    split at h
    · rename_i d hd
      obtain ⟨hN, h⟩ := cond_some h
      split at h
      · rename_i g hgv
        split at h
        · rename_i hr
          simp only [Option.some.injEq, Prod.mk.injEq] at h
          obtain ⟨rfl, rfl, rfl⟩ := h
          exact pst_guard hg hd hN hgv hr hp hk
        · split at h
          · rename_i hr
            simp only [Option.some.injEq, Prod.mk.injEq] at h
            obtain ⟨rfl, rfl, rfl⟩ := h
            exact pst_guard2 hg hd hN hgv hr hp hk
          · obtain ⟨_, h⟩ := cond_some h
            obtain ⟨hg0, h2⟩ := cond_none h
            subst hg0
            simp only [Option.some.injEq, Prod.mk.injEq] at h2
            obtain ⟨rfl, rfl, rfl⟩ := h2
            exact pst_gfalse hg hd hN hgv hk
      · cases h
    · cases h
end
inductive Fm where
  | seq (c : Code)
  | blk (id : Nat)
inductive Ctl where
  | code (c : Code)
  | ops (ops : Array Oper) (l : List Oper)
  | ex (e : Exit)
def stk (G : Pg2) (N : Nat) (Γ : Fr) (K : Exit → PSt → Prop) : List Fm → Exit → PSt → Prop
  | [] => K
  | .seq c :: s => Kseq G.toPg N Γ c (stk G N Γ K s)
  | .blk id :: s => Kblock id (stk G N Γ K s)
def PX (G : Pg2) (N : Nat) (Γ : Fr) (K : Exit → PSt → Prop) (c : Ctl) (st : PSt) (s : List Fm) : Prop :=
  match c with
  | .code c => PWp G.toPg N Γ c st (stk G N Γ K s)
  | .ops ops l => POps G.toPg N Γ ops l st (stk G N Γ K s)
  | .ex e => stk G N Γ K s e st
def exec (tab : List TI) (eqs : List Nat) (k0 N : Nat) : Nat → Bool → Ctl → PSt → List Fm → List Prop → Option (Ctl × PSt × List Fm × List Prop)
  | 0, mv, c, st, s, ps => cond mv (some (c, st, s, ps)) none
  | n + 1, mv, c, st, s, ps => match c with
    | .code c => match c with
      | .skip => exec tab eqs k0 N n true (.ex .normal) st s ps
      | .exit id => exec tab eqs k0 N n true (.ex (.exit id)) st s ps
      | .ret => exec tab eqs k0 N n true (.ex .ret) st s ps
      | .seq x y => exec tab eqs k0 N n true (.code x) st (.seq y :: s) ps
      | .block id x => exec tab eqs k0 N n true (.code x) st (.blk id :: s) ps
      | .region id ops b => match b with
        | false => exec tab eqs k0 N n true (.ops ops ops.toList) st s ps
        | true => cond mv (some (.code (.region id ops true), st, s, ps)) none
      | c => cond mv (some (.code c, st, s, ps)) none
    | .ops ops l => match l with
      | [] => exec tab eqs k0 N n true (.ex .normal) st s ps
      | o :: l => match stepOp tab eqs k0 N ops st o with
        | some (st', p, _) => exec tab eqs k0 N n true (.ops ops l) st' s (p :: ps)
        | none => cond mv (some (.ops ops (o :: l), st, s, ps)) none
    | .ex e => match s with
      | [] => cond mv (some (.ex e, st, [], ps)) none
      | .seq c :: s => match e with
        | .normal => exec tab eqs k0 N n true (.code c) st s ps
        | e => exec tab eqs k0 N n true (.ex e) st s ps
      | .blk id :: s => match e with
        | .exit i => cond (Nat.beq i id) (exec tab eqs k0 N n true (.ex .normal) st s ps) (exec tab eqs k0 N n true (.ex (.exit i)) st s ps)
        | e => exec tab eqs k0 N n true (.ex e) st s ps
section
variable {G : Pg2} {N : Nat} {Γ : Fr} {K : Exit → PSt → Prop}
theorem exec_sound : ∀ (n : Nat) (mv : Bool) (c : Ctl) (st : PSt) (s : List Fm) (ps : List Prop) (c' : Ctl) (st' : PSt) (s' : List Fm) (ps' : List Prop),
    exec G.tab G.eqs Γ.k0 N n mv c st s ps = some (c', st', s', ps') → AllP ps' → AllP ps ∧ (PX G N Γ K c' st' s' → PX G N Γ K c st s) := by
  have stop : ∀ {mv : Bool} {c c' : Ctl} {st st' : PSt} {s s' : List Fm} {ps ps' : List Prop}, cond mv (some (c, st, s, ps)) none = some (c', st', s', ps') → AllP ps' → AllP ps ∧ (PX G N Γ K c' st' s' → PX G N Γ K c st s) := fun h hp => by
    obtain ⟨_, h⟩ := cond_some h
    simp only [Option.some.injEq, Prod.mk.injEq] at h
    obtain ⟨rfl, rfl, rfl, rfl⟩ := h
    exact ⟨hp, id⟩
  intro n
  induction n with
  | zero => intro mv c st s ps c' st' s' ps' h hp; rw [exec] at h; exact stop h hp
  | succ n ih =>
    intro mv c st s ps c' st' s' ps' h hp
    cases c with
    | code c =>
      cases c with
      | skip => rw [exec] at h; obtain ⟨h1, h2⟩ := ih _ _ _ _ _ _ _ _ _ h hp; exact ⟨h1, fun k => pskip (h2 k)⟩
      | exit id => rw [exec] at h; obtain ⟨h1, h2⟩ := ih _ _ _ _ _ _ _ _ _ h hp; exact ⟨h1, fun k => pexit (h2 k)⟩
      | ret => rw [exec] at h; obtain ⟨h1, h2⟩ := ih _ _ _ _ _ _ _ _ _ h hp; exact ⟨h1, fun k => pret (h2 k)⟩
      | seq x y => rw [exec] at h; obtain ⟨h1, h2⟩ := ih _ _ _ _ _ _ _ _ _ h hp; exact ⟨h1, fun k => pseq (h2 k)⟩
      | block id x => rw [exec] at h; obtain ⟨h1, h2⟩ := ih _ _ _ _ _ _ _ _ _ h hp; exact ⟨h1, fun k => pblock (h2 k)⟩
      | region id ops b =>
        cases b
        · rw [exec] at h; obtain ⟨h1, h2⟩ := ih _ _ _ _ _ _ _ _ _ h hp; exact ⟨h1, fun k => pregion (h2 k)⟩
        · rw [exec] at h; exact stop h hp
      | _ => exact stop h hp
    | ops ops l =>
      cases l with
      | nil => rw [exec] at h; obtain ⟨h1, h2⟩ := ih _ _ _ _ _ _ _ _ _ h hp; exact ⟨h1, fun k => pnil (h2 k)⟩
      | cons o l =>
        rw [exec] at h
        split at h
        · rename_i st1 p ch hs
          obtain ⟨h1, h2⟩ := ih _ _ _ _ _ _ _ _ _ h hp
          exact ⟨h1.2, fun k => stepOp_sound hs h1.1 (h2 k)⟩
        · exact stop h hp
    | ex e =>
      cases s with
      | nil => rw [exec] at h; exact stop h hp
      | cons f s =>
        cases f with
        | seq c =>
          cases e with
          | normal => rw [exec] at h; obtain ⟨h1, h2⟩ := ih _ _ _ _ _ _ _ _ _ h hp; exact ⟨h1, fun k => kseq_normal (h2 k)⟩
          | _ => obtain ⟨h1, h2⟩ := ih _ _ _ _ _ _ _ _ _ h hp; exact ⟨h1, fun k => ⟨h2 k⟩⟩
        | blk id =>
          cases e with
          | exit i =>
            rw [exec] at h
            cases hb : Nat.beq i id
            · rw [hb] at h
              obtain ⟨h1, h2⟩ := ih _ _ _ _ _ _ _ _ _ h hp
              exact ⟨h1, fun k => kblock_miss hb (h2 k)⟩
            · rw [hb] at h
              obtain ⟨h1, h2⟩ := ih _ _ _ _ _ _ _ _ _ h hp
              exact ⟨h1, fun k => kblock_hit hb (h2 k)⟩
          | _ => obtain ⟨h1, h2⟩ := ih _ _ _ _ _ _ _ _ _ h hp; exact ⟨h1, fun k => ⟨h2 k⟩⟩
variable {c : Code} {ops : Array Oper} {l : List Oper} {e : Exit} {st st' : PSt} {s s' : List Fm} {ps : List Prop} {c' : Ctl}
theorem xw (n : Nat) (h : exec G.tab G.eqs Γ.k0 N n false (.code c) st s [] = some (c', st', s', ps)) (hp : AllP ps) (hk : PX G N Γ K c' st' s') : PWp G.toPg N Γ c st (stk G N Γ K s) := (exec_sound n _ _ _ _ _ _ _ _ _ h hp).2 hk
theorem xw0 (n : Nat) (h : exec G.tab G.eqs Γ.k0 N n false (.code c) st [] [] = some (c', st', s', ps)) (hp : AllP ps) (hk : PX G N Γ K c' st' s') : PWp G.toPg N Γ c st K := (exec_sound (K := K) n _ _ _ _ _ _ _ _ _ h hp).2 hk
theorem xo (n : Nat) (h : exec G.tab G.eqs Γ.k0 N n false (.ops ops l) st s [] = some (c', st', s', ps)) (hp : AllP ps) (hk : PX G N Γ K c' st' s') : POps G.toPg N Γ ops l st (stk G N Γ K s) := (exec_sound n _ _ _ _ _ _ _ _ _ h hp).2 hk
theorem xo0 (n : Nat) (h : exec G.tab G.eqs Γ.k0 N n false (.ops ops l) st [] [] = some (c', st', s', ps)) (hp : AllP ps) (hk : PX G N Γ K c' st' s') : POps G.toPg N Γ ops l st K := (exec_sound (K := K) n _ _ _ _ _ _ _ _ _ h hp).2 hk
theorem xk (n : Nat) (h : exec G.tab G.eqs Γ.k0 N n false (.ex e) st s [] = some (c', st', s', ps)) (hp : AllP ps) (hk : PX G N Γ K c' st' s') : stk G N Γ K s e st := (exec_sound n _ _ _ _ _ _ _ _ _ h hp).2 hk
end
end Go.Proofs.YtcghpepighboaaaDoor
