/- depend.Cycle. -/
import Derived.Test.YtcefhgomkehokaaA11
import Derived.Test.YtcefhgomkehokaaA10
import Derived.Test.YtcefhgomkehokaaA08
set_option linter.unusedSimpArgs false
set_option linter.unusedVariables false
set_option maxRecDepth 100000
namespace Go.Proofs.Ytcefhgomkehokaa
open Go.MapKept
theorem pop_gfB {G : Pg2} {N : Nat} {Γ : Fr} {st : PSt} {K : Exit → PSt → Prop} {ops : Array Oper} {o : Oper} {rest : List Oper} {d j : Nat} {want : Bool} (hg : o.guard = some (j, want)) (hd : o.dst = some d) (hN : Nat.blt d N = true) (hgv : gval ops st j want = some false) (h : POps G.toPg N Γ ops rest (st.put d (.opt false (vb false))) K) : POps G.toPg N Γ ops (o :: rest) st K := .mk fun ρ I a w hrel => by
  have hw := gval_sound hrel hg hgv
  simp only [wpList, hw, Bool.false_eq_true, if_false, hd]
  exact h.go ρ I _ w (hrel.put (by rwa [Nat.blt_eq] at hN) ⟨by simp, fun _ => rfl⟩)
def nilV : PV → Option Bool
  | .vsl (_ + 1) _ _ => some false
  | .lsl _ _ (_ + 1) => some false
  | .val (.slice none 0 0) => some true
  | _ => none
theorem nilV_rel {p : PV} {b : Bool} {k : Nat} {ρ : Nat → Loc} {I : Nat → Prop} {w : World} {v : Value} (h : nilV p = some b) (hv : VRel k ρ I w p v) : ∃ a n cap, v = .slice a n cap ∧ a.isNone = b := by
  unfold nilV at h
  split at h
  · injection h with h
    obtain ⟨a, cap, rfl, h3⟩ := slLen_rel rfl hv
    rcases h3 (Nat.succ_pos _) with ⟨x, rfl⟩ | ⟨c, hc⟩
    · exact ⟨_, _, _, rfl, h⟩
    · cases hc
  · injection h with h
    obtain ⟨a, cap, rfl, h3⟩ := slLen_rel rfl hv
    rcases h3 (Nat.succ_pos _) with ⟨x, rfl⟩ | ⟨c, hc⟩
    · exact ⟨_, _, _, rfl, h⟩
    · cases hc
  · injection h with h
    have hv : v = .slice none 0 0 := hv
    exact ⟨none, 0, 0, hv, h⟩
  · cases h
section
variable {G : Pg} {N : Nat} {Γ : Fr} {st : PSt} {K : Exit → PSt → Prop} {ops : Array Oper} {o : Oper} {rest : List Oper} {d : Nat}
theorem pop_nilE {t t' e : Nat} {x : Operand} (b : Bool) (hg : o.guard = none) (hd : o.dst = some d) (hN : Nat.blt d N = true) (ho : o.op = .binOp .eql t x (.const (.slice none 0 0)) t') (hk : (tget G.tab t).k = .slice e) (hl : nilV (st.ev x) = some b)
    (h : POps G N Γ ops rest (st.put d (vb b)) K) : POps G N Γ ops (o :: rest) st K := .mk fun ρ I a w hrel => by
  have hw : Region.wanted o (yielded ops a.tmps) = true := by simp [Region.wanted, hg]
  simp only [wpList, hw, if_true]
  refine .inl ?_
  obtain ⟨ad, n, cap, hv, hn⟩ := nilV_rel hl (ev_rel hrel x)
  have hu := tab_slice G.ok hk
  have hrun : (execOp a.eval o).run G.P w = .ok (.value (.bool ad.isNone)) w := by
    have hc : a.eval (.const (.slice none 0 0)) = .slice none 0 0 := rfl
    have hb : (binOp .eql t (.slice ad n cap) (.slice none 0 0)).run G.P w = .ok (.bool ad.isNone) w := by
      show (do pure (Value.bool (← Op.equal t (.slice ad n cap) (.slice none 0 0))) : Sem Value).run G.P w = _
      simp only [Sem.run_bind, run_equal_slice_nil w t e ad n cap hu, Result.andThen_ok, Sem.run_pure]
    simp only [execOp, ho, hv, hc, Sem.run_bind, eqGuard_plain .eql t x (.const (.slice none 0 0)) (.slice ad n cap) (.slice none 0 0) w (by simp) (by simp), hb, Result.andThen_ok, Sem.run_pure]
  simp only [Oper.wp, hrun, Oper.upon_value, hd]
  rw [hn]
  exact h.go ρ I _ w (hrel.put (by rwa [Nat.blt_eq] at hN) rfl)
theorem pop_nilN {t t' e : Nat} {x : Operand} (b : Bool) (hg : o.guard = none) (hd : o.dst = some d) (hN : Nat.blt d N = true) (ho : o.op = .binOp .neq t x (.const (.slice none 0 0)) t') (hk : (tget G.tab t).k = .slice e) (hl : nilV (st.ev x) = some b)
    (h : POps G N Γ ops rest (st.put d (vb (!b))) K) : POps G N Γ ops (o :: rest) st K := .mk fun ρ I a w hrel => by
  have hw : Region.wanted o (yielded ops a.tmps) = true := by simp [Region.wanted, hg]
  simp only [wpList, hw, if_true]
  refine .inl ?_
  obtain ⟨ad, n, cap, hv, hn⟩ := nilV_rel hl (ev_rel hrel x)
  have hu := tab_slice G.ok hk
  have hrun : (execOp a.eval o).run G.P w = .ok (.value (.bool (!ad.isNone))) w := by
    have hc : a.eval (.const (.slice none 0 0)) = .slice none 0 0 := rfl
    have hb : (binOp .neq t (.slice ad n cap) (.slice none 0 0)).run G.P w = .ok (.bool (!ad.isNone)) w := by
      show (do pure (Value.bool (!(← Op.equal t (.slice ad n cap) (.slice none 0 0)))) : Sem Value).run G.P w = _
      simp only [Sem.run_bind, run_equal_slice_nil w t e ad n cap hu, Result.andThen_ok, Sem.run_pure]
    simp only [execOp, ho, hv, hc, Sem.run_bind, eqGuard_plain .neq t x (.const (.slice none 0 0)) (.slice ad n cap) (.slice none 0 0) w (by simp) (by simp), hb, Result.andThen_ok, Sem.run_pure]
  simp only [Oper.wp, hrun, Oper.upon_value, hd]
  rw [hn]
  exact h.go ρ I _ w (hrel.put (by rwa [Nat.blt_eq] at hN) rfl)
end
theorem cycR_cl : ∀ c, Cl (cycR c)
  | [] => trivial
  | _ :: _ => trivial
def bstG (b c : List Int) : List Int := if c ≠ [] ∧ (b = [] ∨ c.length < b.length) then c else b
def bstF (N : List Int) (L : List (Int × List Int)) (A : List Int) : List Int := A.foldl (fun b x => bstG b (cycS N L x)) []
theorem bstF_snoc {N : List Int} {L : List (Int × List Int)} {A : List Int} {x : Int} : bstF N L (A ++ [x]) = bstG (bstF N L A) (cycS N L x) := by
  unfold bstF; rw [List.foldl_append]; rfl
def CycS (nm : ByteArray) (l : List Df) (day : Int) : List Int := if gErr nm l day ≠ 0 then [] else bstF (nodS l day) (mapS l day) (nodS l day)
theorem sget_map {f : Int → List Int} {ns : List Int} {x y : Int} (h : y ∈ sget (ns.map fun x => (x, f x)) x) : x ∈ ns ∧ y ∈ f x := by
  unfold sget at h
  split at h
  · rename_i e he
    have h1 := List.mem_of_find?_eq_some he
    have h2 := List.find?_some he
    obtain ⟨z, hz, rfl⟩ := List.mem_map.1 h1
    have h2 : z = x := by simpa using h2
    subst h2
    exact ⟨hz, h⟩
  · cases h
theorem needS_mem {l : List Df} {act : List Int} {i : Nat} {y : Int} (h : y ∈ (needS l act i).1) : y ∈ act := by
  unfold needS at h
  split at h
  · exact (List.mem_filter.1 h).1
  · cases h
theorem mapS_pos (l : List Df) (day : Int) : ∀ x y, y ∈ sget (mapS l day) x → 0 ≤ y := fun x y h => (actL_in y (needS_mem (sget_map h).2)).1
set_option maxHeartbeats 8000000 in
theorem Cycle_c (nm : ByteArray) (l : List Df) (day : Int) (h : AgO nm l) (hl : l.length ≤ 900000) : PureC G.P 28 [vA nm l, vi day] (fun r => r = cycR (CycS nm l day)) := by
  by_cases he : gErr nm l day = 0
  · have cg := newGraph_c0 nm l day h (by omega) he
    have hNl := nodS_len l day
    have cy := fun x => cycle_c (nodS l day) (mapS l day) x (by omega) (fun e he => Nat.le_trans (mapS_len l day e he) (by omega)) (mapS_pos l day)
    have hX : CycS nm l day = bstF (nodS l day) (mapS l day) (nodS l day) := by unfold CycS; rw [if_neg (fun hh => hh he)]
    rw [hX]
    generalize nodS l day = N at *
    generalize mapS l day = L at *
    refine pure_of (G := G.toPg) (fn := Try.f28) Try.func28 rfl rfl rfl ?_; intro Γ hk
    repeat' (first | refine yo ?_ ?_ | refine yw ?_ ?_ | refine yk ?_ ?_ | exact trivial | with_reducible refine wA ?_ ?_ | refine ys ?_ ?_ | refine xs_done ?_ | refine yl ?_ ?_ | (refine pop_callc [] rfl rfl rfl rfl rfl rfl (fun _ h => by cases h) (cg) (args_cl _ rfl) ?_; rintro _ rfl) | refine w8 ?_ | refine w9 ?_ | refine w1 ?_ | refine w2 ?_ | refine w3 ?_ | refine w4 ?_ | refine w5 ?_ | refine w6 ?_ | refine w7 ?_ | refine yo0 ?_ ?_ | refine yw0 ?_ ?_ | exact qq | fail)
    refine pcan (st' := ⟨[(5, .ptr 0 0 0), (7, cycR []), (20, sV N), (21, vi N.length), (22, vi ((0 : Nat) : Int))], [cG (sV N) (.vmap (cS L))]⟩) (can_rowsv [1] (k0_sel hk rfl) rfl (.cons rfl (cG_eq (PEq.refl _) (PEq.refl _)) .nil) tmq) ?_
    refine ploop (fun q st => ∃ (i : Nat) (b : List Int), i ≤ N.length ∧ b = bstF N L (N.take i) ∧ q = N.length - i ∧ st = ⟨[(5, .ptr 0 0 0), (7, cycR b), (20, sV N), (21, vi N.length), (22, vi i)], [cG (sV N) (.vmap (cS L))]⟩) N.length ⟨0, [], Nat.zero_le _, by rw [List.take_zero]; rfl, rfl, rfl⟩ ?_
    rintro _ _ ⟨i, b, hi, hb, rfl, rfl⟩
    have hw1 : IntKind.i64.wrap ((i : Int) + 1) = ((i + 1 : Nat) : Int) := w64 (by omega) (by omega)
    repeat' (first | refine yo ?_ ?_ | refine yw ?_ ?_ | refine yk ?_ ?_ | exact trivial | with_reducible refine wA ?_ ?_ | refine ys ?_ ?_ | refine xs_done ?_ | refine yl ?_ ?_ | refine w8 ?_ | refine w9 ?_ | refine w1 ?_ | refine w2 ?_ | refine w3 ?_ | refine w4 ?_ | refine w5 ?_ | refine w6 ?_ | refine w7 ?_ | refine yo0 ?_ ?_ | refine yw0 ?_ ?_ | exact qq | fail)
    refine pcond rfl ?_ ?_ <;> intro hc
    · have hc : i < N.length := by have := of_decide_eq_true hc; omega
      have hT : N.take (i + 1) = N.take i ++ [lF 0 N i] := by
        unfold lF
        rw [List.take_add_one, List.getD_eq_getElem?_getD, List.getElem?_eq_getElem (by omega)]; rfl
      have hG : bstF N L (N.take (i + 1)) = bstG b (cycS N L (lF 0 N i)) := by rw [hT, bstF_snoc, ← hb]
      have cy1 := cy (lF 0 N i)
      generalize hcy : cycS N L (lF 0 N i) = c at cy1 hG
      cases c with
      | nil =>
        cases b with
        | nil =>
          repeat' (first | refine yo ?_ ?_ | refine yw ?_ ?_ | refine yk ?_ ?_ | exact trivial | with_reducible refine wA ?_ ?_ | refine ys ?_ ?_ | refine xs_done ?_ | refine yl ?_ ?_ | (refine pop_callc [] rfl rfl rfl rfl rfl rfl (fun _ h => by cases h) (cy1) (args_cl _ rfl) ?_; rintro _ rfl) | refine w8 ?_ | refine w9 ?_ | refine w1 ?_ | refine w2 ?_ | refine w3 ?_ | refine w4 ?_ | refine w5 ?_ | refine w6 ?_ | refine w7 ?_ | refine yo0 ?_ ?_ | refine yw0 ?_ ?_ | exact qq | fail)
          refine pop_nilN true rfl rfl rfl rfl rfl rfl ?_
          repeat' (first | refine yo ?_ ?_ | refine yw ?_ ?_ | refine yk ?_ ?_ | exact trivial | with_reducible refine wA ?_ ?_ | refine ys ?_ ?_ | refine xs_done ?_ | refine yl ?_ ?_ | refine w8 ?_ | refine w9 ?_ | refine w1 ?_ | refine w2 ?_ | refine w3 ?_ | refine w4 ?_ | refine w5 ?_ | refine w6 ?_ | refine w7 ?_ | refine yo0 ?_ ?_ | refine yw0 ?_ ?_ | exact qq | fail)
          refine pop_gfB rfl rfl rfl rfl ?_
          repeat' (first | refine yo ?_ ?_ | refine yw ?_ ?_ | refine yk ?_ ?_ | exact trivial | with_reducible refine wA ?_ ?_ | refine ys ?_ ?_ | refine xs_done ?_ | refine yl ?_ ?_ | (refine pop_gfalse rfl rfl rfl rfl ?_) | (intro hh; cases hh; done) | (intro _; exact ⟨rfl, trivial⟩) | (exact ⟨rfl, trivial⟩) | refine w8 ?_ | refine w9 ?_ | refine w1 ?_ | refine w2 ?_ | refine w3 ?_ | refine w4 ?_ | refine w5 ?_ | refine w6 ?_ | refine w7 ?_ | refine yo0 ?_ ?_ | refine yw0 ?_ ?_ | exact qq | fail)
          rw [hw1]
          exact kloop_next (st' := ⟨[(5, .ptr 0 0 0), (7, cycR []), (20, sV N), (21, vi N.length), (22, vi ((i + 1 : Nat) : Int))], [cG (sV N) (.vmap (cS L))]⟩) (N.length - (i + 1)) (can_rowsv [0] (k0_sel hk rfl) rfl (.cons rfl (cG_eq (PEq.refl _) (PEq.refl _)) .nil) (by exact ⟨PEq.refl _, PEq.cl _ (cycR_cl []), PEq.refl _, PEq.refl _, PEq.refl _, trivial⟩)) (by omega) ⟨i + 1, _, by omega, by rw [hG]; unfold bstG; rw [if_neg (fun hh => hh.1 rfl)], rfl, rfl⟩
        | cons a2 b =>
          repeat' (first | refine yo ?_ ?_ | refine yw ?_ ?_ | refine yk ?_ ?_ | exact trivial | with_reducible refine wA ?_ ?_ | refine ys ?_ ?_ | refine xs_done ?_ | refine yl ?_ ?_ | (refine pop_callc [] rfl rfl rfl rfl rfl rfl (fun _ h => by cases h) (cy1) (args_cl _ rfl) ?_; rintro _ rfl) | refine w8 ?_ | refine w9 ?_ | refine w1 ?_ | refine w2 ?_ | refine w3 ?_ | refine w4 ?_ | refine w5 ?_ | refine w6 ?_ | refine w7 ?_ | refine yo0 ?_ ?_ | refine yw0 ?_ ?_ | exact qq | fail)
          refine pop_nilN true rfl rfl rfl rfl rfl rfl ?_
          repeat' (first | refine yo ?_ ?_ | refine yw ?_ ?_ | refine yk ?_ ?_ | exact trivial | with_reducible refine wA ?_ ?_ | refine ys ?_ ?_ | refine xs_done ?_ | refine yl ?_ ?_ | refine w8 ?_ | refine w9 ?_ | refine w1 ?_ | refine w2 ?_ | refine w3 ?_ | refine w4 ?_ | refine w5 ?_ | refine w6 ?_ | refine w7 ?_ | refine yo0 ?_ ?_ | refine yw0 ?_ ?_ | exact qq | fail)
          refine pop_gfB rfl rfl rfl rfl ?_
          repeat' (first | refine yo ?_ ?_ | refine yw ?_ ?_ | refine yk ?_ ?_ | exact trivial | with_reducible refine wA ?_ ?_ | refine ys ?_ ?_ | refine xs_done ?_ | refine yl ?_ ?_ | (refine pop_gfalse rfl rfl rfl rfl ?_) | (intro hh; cases hh; done) | (intro _; exact ⟨rfl, trivial⟩) | (exact ⟨rfl, trivial⟩) | refine w8 ?_ | refine w9 ?_ | refine w1 ?_ | refine w2 ?_ | refine w3 ?_ | refine w4 ?_ | refine w5 ?_ | refine w6 ?_ | refine w7 ?_ | refine yo0 ?_ ?_ | refine yw0 ?_ ?_ | exact qq | fail)
          rw [hw1]
          exact kloop_next (st' := ⟨[(5, .ptr 0 0 0), (7, cycR (a2 :: b)), (20, sV N), (21, vi N.length), (22, vi ((i + 1 : Nat) : Int))], [cG (sV N) (.vmap (cS L))]⟩) (N.length - (i + 1)) (can_rowsv [0] (k0_sel hk rfl) rfl (.cons rfl (cG_eq (PEq.refl _) (PEq.refl _)) .nil) (by exact ⟨PEq.refl _, PEq.cl _ (cycR_cl (a2 :: b)), PEq.refl _, PEq.refl _, PEq.refl _, trivial⟩)) (by omega) ⟨i + 1, _, by omega, by rw [hG]; unfold bstG; rw [if_neg (fun hh => hh.1 rfl)], rfl, rfl⟩
      | cons a c =>
        cases b with
        | nil =>
          repeat' (first | refine yo ?_ ?_ | refine yw ?_ ?_ | refine yk ?_ ?_ | exact trivial | with_reducible refine wA ?_ ?_ | refine ys ?_ ?_ | refine xs_done ?_ | refine yl ?_ ?_ | (refine pop_callc [] rfl rfl rfl rfl rfl rfl (fun _ h => by cases h) (cy1) (args_cl _ rfl) ?_; rintro _ rfl) | refine w8 ?_ | refine w9 ?_ | refine w1 ?_ | refine w2 ?_ | refine w3 ?_ | refine w4 ?_ | refine w5 ?_ | refine w6 ?_ | refine w7 ?_ | refine yo0 ?_ ?_ | refine yw0 ?_ ?_ | exact qq | fail)
          refine pop_nilN false rfl rfl rfl rfl rfl rfl ?_
          repeat' (first | refine yo ?_ ?_ | refine yw ?_ ?_ | refine yk ?_ ?_ | exact trivial | with_reducible refine wA ?_ ?_ | refine ys ?_ ?_ | refine xs_done ?_ | refine yl ?_ ?_ | refine w8 ?_ | refine w9 ?_ | refine w1 ?_ | refine w2 ?_ | refine w3 ?_ | refine w4 ?_ | refine w5 ?_ | refine w6 ?_ | refine w7 ?_ | refine yo0 ?_ ?_ | refine yw0 ?_ ?_ | exact qq | fail)
          refine pop_opt 32 rfl rfl ?_
          refine pop_unguard rfl rfl ?_
          refine pop_nilE true rfl rfl rfl rfl rfl rfl ?_
          repeat' (first | refine yo ?_ ?_ | refine yw ?_ ?_ | refine yk ?_ ?_ | exact trivial | with_reducible refine wA ?_ ?_ | refine ys ?_ ?_ | refine xs_done ?_ | refine yl ?_ ?_ | (refine pop_gfalse rfl rfl rfl rfl ?_) | (intro hh; cases hh; done) | (intro _; exact ⟨rfl, trivial⟩) | (exact ⟨rfl, trivial⟩) | refine w8 ?_ | refine w9 ?_ | refine w1 ?_ | refine w2 ?_ | refine w3 ?_ | refine w4 ?_ | refine w5 ?_ | refine w6 ?_ | refine w7 ?_ | refine yo0 ?_ ?_ | refine yw0 ?_ ?_ | exact qq | fail)
          rw [hw1]
          exact kloop_next (st' := ⟨[(5, .ptr 0 0 0), (7, cycR (a :: c)), (20, sV N), (21, vi N.length), (22, vi ((i + 1 : Nat) : Int))], [cG (sV N) (.vmap (cS L))]⟩) (N.length - (i + 1)) (can_rowsv [0] (k0_sel hk rfl) rfl (.cons rfl (cG_eq (PEq.refl _) (PEq.refl _)) .nil) tmq) (by omega) ⟨i + 1, _, by omega, by rw [hG]; unfold bstG; rw [if_pos ⟨by simp, .inl rfl⟩], rfl, rfl⟩
        | cons a2 b =>
          repeat' (first | refine yo ?_ ?_ | refine yw ?_ ?_ | refine yk ?_ ?_ | exact trivial | with_reducible refine wA ?_ ?_ | refine ys ?_ ?_ | refine xs_done ?_ | refine yl ?_ ?_ | (refine pop_callc [] rfl rfl rfl rfl rfl rfl (fun _ h => by cases h) (cy1) (args_cl _ rfl) ?_; rintro _ rfl) | refine w8 ?_ | refine w9 ?_ | refine w1 ?_ | refine w2 ?_ | refine w3 ?_ | refine w4 ?_ | refine w5 ?_ | refine w6 ?_ | refine w7 ?_ | refine yo0 ?_ ?_ | refine yw0 ?_ ?_ | exact qq | fail)
          refine pop_nilN false rfl rfl rfl rfl rfl rfl ?_
          repeat' (first | refine yo ?_ ?_ | refine yw ?_ ?_ | refine yk ?_ ?_ | exact trivial | with_reducible refine wA ?_ ?_ | refine ys ?_ ?_ | refine xs_done ?_ | refine yl ?_ ?_ | refine w8 ?_ | refine w9 ?_ | refine w1 ?_ | refine w2 ?_ | refine w3 ?_ | refine w4 ?_ | refine w5 ?_ | refine w6 ?_ | refine w7 ?_ | refine yo0 ?_ ?_ | refine yw0 ?_ ?_ | exact qq | fail)
          refine pop_opt 32 rfl rfl ?_
          refine pop_unguard rfl rfl ?_
          refine pop_nilE false rfl rfl rfl rfl rfl rfl ?_
          repeat' (first | refine yo ?_ ?_ | refine yw ?_ ?_ | refine yk ?_ ?_ | exact trivial | with_reducible refine wA ?_ ?_ | refine ys ?_ ?_ | refine xs_done ?_ | refine yl ?_ ?_ | refine w8 ?_ | refine w9 ?_ | refine w1 ?_ | refine w2 ?_ | refine w3 ?_ | refine w4 ?_ | refine w5 ?_ | refine w6 ?_ | refine w7 ?_ | refine yo0 ?_ ?_ | refine yw0 ?_ ?_ | exact qq | fail)
          refine pcond (b := decide ((a :: c).length < (a2 :: b).length)) (eqB (by rw [Bool.eq_iff_iff]; simp)) ?_ ?_ <;> intro hd
          · have hd := of_decide_eq_true hd
            repeat' (first | refine yo ?_ ?_ | refine yw ?_ ?_ | refine yk ?_ ?_ | exact trivial | with_reducible refine wA ?_ ?_ | refine ys ?_ ?_ | refine xs_done ?_ | refine yl ?_ ?_ | refine w8 ?_ | refine w9 ?_ | refine w1 ?_ | refine w2 ?_ | refine w3 ?_ | refine w4 ?_ | refine w5 ?_ | refine w6 ?_ | refine w7 ?_ | refine yo0 ?_ ?_ | refine yw0 ?_ ?_ | exact qq | fail)
            rw [hw1]
            exact kloop_next (st' := ⟨[(5, .ptr 0 0 0), (7, cycR (a :: c)), (20, sV N), (21, vi N.length), (22, vi ((i + 1 : Nat) : Int))], [cG (sV N) (.vmap (cS L))]⟩) (N.length - (i + 1)) (can_rowsv [0] (k0_sel hk rfl) rfl (.cons rfl (cG_eq (PEq.refl _) (PEq.refl _)) .nil) tmq) (by omega) ⟨i + 1, _, by omega, by rw [hG]; unfold bstG; rw [if_pos ⟨by simp, .inr hd⟩], rfl, rfl⟩
          · have hd := of_decide_eq_false hd
            repeat' (first | refine yo ?_ ?_ | refine yw ?_ ?_ | refine yk ?_ ?_ | exact trivial | with_reducible refine wA ?_ ?_ | refine ys ?_ ?_ | refine xs_done ?_ | refine yl ?_ ?_ | refine w8 ?_ | refine w9 ?_ | refine w1 ?_ | refine w2 ?_ | refine w3 ?_ | refine w4 ?_ | refine w5 ?_ | refine w6 ?_ | refine w7 ?_ | refine yo0 ?_ ?_ | refine yw0 ?_ ?_ | exact qq | fail)
            rw [hw1]
            exact kloop_next (st' := ⟨[(5, .ptr 0 0 0), (7, cycR (a2 :: b)), (20, sV N), (21, vi N.length), (22, vi ((i + 1 : Nat) : Int))], [cG (sV N) (.vmap (cS L))]⟩) (N.length - (i + 1)) (can_rowsv [0] (k0_sel hk rfl) rfl (.cons rfl (cG_eq (PEq.refl _) (PEq.refl _)) .nil) tmq) (by omega) ⟨i + 1, _, by omega, by rw [hG]; unfold bstG; rw [if_neg (fun hh => hh.2.elim (by simp) hd)], rfl, rfl⟩
    · have hil : i = N.length := by have := of_decide_eq_false hc; omega
      subst hil
      rw [List.take_length] at hb
      cases b with
      | nil =>
        repeat' (first | refine yo ?_ ?_ | refine yw ?_ ?_ | refine yk ?_ ?_ | exact trivial | with_reducible refine wA ?_ ?_ | refine ys ?_ ?_ | refine xs_done ?_ | refine yl ?_ ?_ | refine w8 ?_ | refine w9 ?_ | refine w1 ?_ | refine w2 ?_ | refine w3 ?_ | refine w4 ?_ | refine w5 ?_ | refine w6 ?_ | refine w7 ?_ | refine yo0 ?_ ?_ | refine yw0 ?_ ?_ | exact qq | fail)
        refine kretv rfl ⟨trivial, trivial⟩ rfl ?_
        rw [← hb]; rfl
      | cons a2 b =>
        repeat' (first | refine yo ?_ ?_ | refine yw ?_ ?_ | refine yk ?_ ?_ | exact trivial | with_reducible refine wA ?_ ?_ | refine ys ?_ ?_ | refine xs_done ?_ | refine yl ?_ ?_ | refine w8 ?_ | refine w9 ?_ | refine w1 ?_ | refine w2 ?_ | refine w3 ?_ | refine w4 ?_ | refine w5 ?_ | refine w6 ?_ | refine w7 ?_ | refine yo0 ?_ ?_ | refine yw0 ?_ ?_ | exact qq | fail)
        refine kretv rfl ⟨trivial, trivial⟩ rfl ?_
        rw [← hb]; rfl
  · have cg := newGraph_c1 nm l day h (by omega) he
    refine pure_of (G := G.toPg) (fn := Try.f28) Try.func28 rfl rfl rfl ?_; intro Γ hk
    repeat' (first | refine yo ?_ ?_ | refine yw ?_ ?_ | refine yk ?_ ?_ | exact trivial | with_reducible refine wA ?_ ?_ | refine ys ?_ ?_ | refine xs_done ?_ | refine yl ?_ ?_ | (refine pop_callc [] rfl rfl rfl rfl rfl rfl (fun _ h => by cases h) (cg) (args_cl _ rfl) ?_; rintro _ rfl) | refine w8 ?_ | refine w9 ?_ | refine w1 ?_ | refine w2 ?_ | refine w3 ?_ | refine w4 ?_ | refine w5 ?_ | refine w6 ?_ | refine w7 ?_ | refine yo0 ?_ ?_ | refine yw0 ?_ ?_ | exact qq | fail)
    refine pcond (b := true) (eqB (by simpa using he)) ?_ ?_ <;> intro h1
    · repeat' (first | refine yo ?_ ?_ | refine yw ?_ ?_ | refine yk ?_ ?_ | exact trivial | with_reducible refine wA ?_ ?_ | refine ys ?_ ?_ | refine xs_done ?_ | refine yl ?_ ?_ | refine w8 ?_ | refine w9 ?_ | refine w1 ?_ | refine w2 ?_ | refine w3 ?_ | refine w4 ?_ | refine w5 ?_ | refine w6 ?_ | refine w7 ?_ | refine yo0 ?_ ?_ | refine yw0 ?_ ?_ | exact qq | fail)
      refine kretv rfl ⟨trivial, trivial⟩ rfl ?_
      unfold CycS; rw [if_pos he]; rfl
    · cases h1
end Go.Proofs.Ytcefhgomkehokaa
namespace Go.Proofs.Ytcefhgomkehokaa
structure PrdE (F : FuncId) (c : Nat → PV) (p : Ex → Bool) : Prop where
  c0 : Cl (c 0)
  run : ∀ x, PureC G.P F [vX x, c 0] (fun r => r = vb (p x))
theorem PrdE.cl {F : FuncId} {c : Nat → PV} {p : Ex → Bool} (h : PrdE F c p) : Cl (.clo F 1 c) := fun i hi => by
  obtain rfl : i = 0 := by omega
  exact h.c0
theorem PrdE.eq {F : FuncId} {c : Nat → PV} {p : Ex → Bool} (h : PrdE F c p) {τ : Nat → Option Nat} : PEq ((PV.clo F 1 c).ren τ) (.clo F 1 c) := PEq.cl _ h.cl
theorem indexFuncE_c (n : Nat) (g : Nat → Ex) (F : FuncId) (c : Nat → PV) (p : Ex → Bool) (hF : PrdE F c p) (hn : n ≤ 1000000000) :
    PureC G.P 77 [.vsl n 10 (tF cX g), .clo F 1 c] (fun r => ∃ i : Nat, i ≤ n ∧ (∀ j, j < i → p (g j) = false) ∧ ((i < n ∧ p (g i) = true ∧ r = vi i) ∨ (i = n ∧ r = vi (-1)))) := by
  refine pure_of (G := G.toPg) (fn := Try.f77) Try.func77 rfl rfl rfl ?_; intro Γ hk
  repeat' (first | refine yo ?_ ?_ | refine yw ?_ ?_ | refine yk ?_ ?_ | exact trivial | with_reducible refine wA ?_ ?_ | refine ys ?_ ?_ | refine xs_done ?_ | refine yl ?_ ?_ | refine w8 ?_ | refine w9 ?_ | refine w1 ?_ | refine w2 ?_ | refine w3 ?_ | refine w4 ?_ | refine w5 ?_ | refine w6 ?_ | refine w7 ?_ | refine yo0 ?_ ?_ | refine yw0 ?_ ?_ | exact qq | fail)
  refine pcan (st' := ⟨[(0, .vsl n 10 (tF cX g)), (1, .clo F 1 c), (7, vi n), (8, vi ((0 : Nat) : Int))], []⟩) (can_rowsv [] (k0_sel hk rfl) rfl .nil (by exact ⟨PEq.refl _, hF.eq, PEq.refl _, PEq.refl _, trivial⟩)) ?_
  refine ploop (fun q st => ∃ i : Nat, i ≤ n ∧ (∀ j, j < i → p (g j) = false) ∧ q = n - i ∧ st = ⟨[(0, .vsl n 10 (tF cX g)), (1, .clo F 1 c), (7, vi n), (8, vi i)], []⟩) n ⟨0, by omega, fun j hj => by omega, rfl, rfl⟩ ?_
  rintro _ _ ⟨i, hi, hv, rfl, rfl⟩
  repeat' (first | refine yo ?_ ?_ | refine yw ?_ ?_ | refine yk ?_ ?_ | exact trivial | with_reducible refine wA ?_ ?_ | refine ys ?_ ?_ | refine xs_done ?_ | refine yl ?_ ?_ | refine w8 ?_ | refine w9 ?_ | refine w1 ?_ | refine w2 ?_ | refine w3 ?_ | refine w4 ?_ | refine w5 ?_ | refine w6 ?_ | refine w7 ?_ | refine yo0 ?_ ?_ | refine yw0 ?_ ?_ | exact qq | fail)
  refine pcond rfl ?_ ?_ <;> intro hc <;> simp at hc
  · repeat' (first | refine yo ?_ ?_ | refine yw ?_ ?_ | refine yk ?_ ?_ | exact trivial | with_reducible refine wA ?_ ?_ | refine ys ?_ ?_ | refine xs_done ?_ | refine yl ?_ ?_ | refine w8 ?_ | refine w9 ?_ | refine w1 ?_ | refine w2 ?_ | refine w3 ?_ | refine w4 ?_ | refine w5 ?_ | refine w6 ?_ | refine w7 ?_ | refine yo0 ?_ ?_ | refine yw0 ?_ ?_ | exact qq | fail)
    refine pop_rowsc [] rfl rfl rfl rfl rfl rfl .nil (pure_rows (hF.run (g i))) (by exact ⟨PEq.cl _ (fun i _ => clL_nth _ i (cX_cl _)), PEq.cl _ hF.c0, trivial⟩) ?_
    rintro _ _ ⟨rfl, rfl⟩
    refine ⟨_, _, rfl, trivial, rfl, ?_⟩
    cases hp : p (g i) with
    | true =>
      repeat' (first | refine yo ?_ ?_ | refine yw ?_ ?_ | refine yk ?_ ?_ | exact trivial | with_reducible refine wA ?_ ?_ | refine ys ?_ ?_ | refine xs_done ?_ | refine yl ?_ ?_ | refine w8 ?_ | refine w9 ?_ | refine w1 ?_ | refine w2 ?_ | refine w3 ?_ | refine w4 ?_ | refine w5 ?_ | refine w6 ?_ | refine w7 ?_ | refine yo0 ?_ ?_ | refine yw0 ?_ ?_ | exact qq | fail)
      exact kret [] rfl ⟨trivial, trivial⟩ (qs := [vi i]) ⟨argVal, trivial⟩ ⟨i, by omega, hv, .inl ⟨hc, hp, rfl⟩⟩
    | false =>
      repeat' (first | refine yo ?_ ?_ | refine yw ?_ ?_ | refine yk ?_ ?_ | exact trivial | with_reducible refine wA ?_ ?_ | refine ys ?_ ?_ | refine xs_done ?_ | refine yl ?_ ?_ | refine w8 ?_ | refine w9 ?_ | refine w1 ?_ | refine w2 ?_ | refine w3 ?_ | refine w4 ?_ | refine w5 ?_ | refine w6 ?_ | refine w7 ?_ | refine yo0 ?_ ?_ | refine yw0 ?_ ?_ | exact qq | fail)
      rw [show IntKind.i64.wrap ((i : Int) + 1) = ((i + 1 : Nat) : Int) from w64 (by omega) (by omega)]
      exact kloop_next (st' := ⟨[(0, .vsl n 10 (tF cX g)), (1, .clo F 1 c), (7, vi n), (8, vi ((i + 1 : Nat) : Int))], []⟩) (n - (i + 1)) (can_rowsv [] (k0_sel hk rfl) rfl .nil (by exact ⟨PEq.refl _, hF.eq, PEq.refl _, PEq.refl _, trivial⟩)) (by omega) ⟨i + 1, by omega, fun j hj => by
        by_cases e : j = i
        · subst e; exact hp
        · exact hv j (by omega), rfl, rfl⟩
  · have hin : i = n := by omega
    subst hin
    repeat' (first | refine yo ?_ ?_ | refine yw ?_ ?_ | refine yk ?_ ?_ | exact trivial | with_reducible refine wA ?_ ?_ | refine ys ?_ ?_ | refine xs_done ?_ | refine yl ?_ ?_ | refine w8 ?_ | refine w9 ?_ | refine w1 ?_ | refine w2 ?_ | refine w3 ?_ | refine w4 ?_ | refine w5 ?_ | refine w6 ?_ | refine w7 ?_ | refine yo0 ?_ ?_ | refine yw0 ?_ ?_ | exact qq | fail)
    exact kret [] rfl ⟨trivial, trivial⟩ (qs := [vi (-1)]) ⟨argVal, trivial⟩ ⟨i, by omega, hv, .inr ⟨rfl, rfl⟩⟩
theorem lF_getX {l : List Ex} {i : Nat} (h : i < l.length) : lF Ex.nil l i = l[i] := by
  unfold lF; rw [List.getD_eq_getElem?_getD, List.getElem?_eq_getElem h]; rfl
theorem containsFuncE_c (L : List Ex) (F : FuncId) (c : Nat → PV) (p : Ex → Bool) (hF : PrdE F c p) (hn : L.length ≤ 1000000000) : PureC G.P 54 [.vsl L.length 10 (tF cX (lF .nil L)), .clo F 1 c] (fun r => r = vb (L.any p)) := by
  have c1 := indexFuncE_c L.length (lF .nil L) F c p hF hn
  refine pure_of (G := G.toPg) (fn := Try.f54) Try.func54 rfl rfl rfl ?_; intro Γ hk
  repeat' (first | refine yo ?_ ?_ | refine yw ?_ ?_ | refine yk ?_ ?_ | exact trivial | with_reducible refine wA ?_ ?_ | refine ys ?_ ?_ | refine xs_done ?_ | refine yl ?_ ?_ | refine w8 ?_ | refine w9 ?_ | refine w1 ?_ | refine w2 ?_ | refine w3 ?_ | refine w4 ?_ | refine w5 ?_ | refine w6 ?_ | refine w7 ?_ | refine yo0 ?_ ?_ | refine yw0 ?_ ?_ | exact qq | fail)
  refine pop_call [] rfl rfl rfl rfl rfl c1 ⟨argVsl, argCl hF.cl, trivial⟩ ?_
  rintro _ ⟨i, hi, hv, ⟨hin, hp, rfl⟩ | ⟨rfl, rfl⟩⟩
  · refine ⟨trivial, ?_⟩
    repeat' (first | refine yo ?_ ?_ | refine yw ?_ ?_ | refine yk ?_ ?_ | exact trivial | with_reducible refine wA ?_ ?_ | refine ys ?_ ?_ | refine xs_done ?_ | refine yl ?_ ?_ | refine w8 ?_ | refine w9 ?_ | refine w1 ?_ | refine w2 ?_ | refine w3 ?_ | refine w4 ?_ | refine w5 ?_ | refine w6 ?_ | refine w7 ?_ | refine yo0 ?_ ?_ | refine yw0 ?_ ?_ | exact qq | fail)
    refine kretv rfl ⟨trivial, trivial⟩ rfl (eqB ?_)
    have : L.any p = true := by
      rw [lF_getX hin] at hp
      exact List.any_eq_true.2 ⟨_, List.getElem_mem hin, hp⟩
    rw [this]; simp
  · refine ⟨trivial, ?_⟩
    repeat' (first | refine yo ?_ ?_ | refine yw ?_ ?_ | refine yk ?_ ?_ | exact trivial | with_reducible refine wA ?_ ?_ | refine ys ?_ ?_ | refine xs_done ?_ | refine yl ?_ ?_ | refine w8 ?_ | refine w9 ?_ | refine w1 ?_ | refine w2 ?_ | refine w3 ?_ | refine w4 ?_ | refine w5 ?_ | refine w6 ?_ | refine w7 ?_ | refine yo0 ?_ ?_ | refine yw0 ?_ ?_ | exact qq | fail)
    refine kretv rfl ⟨trivial, trivial⟩ rfl (eqB ?_)
    have : L.any p = false := by
      rw [List.any_eq_false]
      intro x hx
      obtain ⟨j, hj, rfl⟩ := List.getElem_of_mem hx
      have := hv j hj
      rw [lF_getX hj] at this
      simp [this]
    rw [this]; rfl
/-! ### mentions -/
def mentB (s : ByteArray) (r : Ex) : Bool := r.nm.toList == s.toList
def mentS (e : Ex) (s : ByteArray) : Bool := (refsE e).any (mentB s)
theorem named_p (s : ByteArray) : PrdE 55 (nthP [.vptr 1 1 (fun _ _ => vs s) 0 0]) (mentB s) := ⟨trivial, fun x => by
  refine pure_of (G := G.toPg) (fn := Try.f55) Try.func55 rfl rfl rfl ?_; intro Γ hk
  repeat' (first | refine yo ?_ ?_ | refine yw ?_ ?_ | refine yk ?_ ?_ | exact trivial | with_reducible refine wA ?_ ?_ | refine ys ?_ ?_ | refine xs_done ?_ | refine yl ?_ ?_ | refine w8 ?_ | refine w9 ?_ | refine w1 ?_ | refine w2 ?_ | refine w3 ?_ | refine w4 ?_ | refine w5 ?_ | refine w6 ?_ | refine w7 ?_ | refine yo0 ?_ ?_ | refine yw0 ?_ ?_ | exact qq | fail)
  exact kretv rfl ⟨trivial, trivial⟩ rfl rfl⟩
theorem mentions_c (e : Ex) (s : ByteArray) (hv : validS 32 e = true) (hw : e.w ≤ 900000) : PureC G.P 46 [vX e, vs s] (fun r => r = vb (mentS e s)) := by
  have rc := (refs_c 32 e hv hw).nil
  have rl := refs_len e
  have hX : mentS e s = (refsE e).any (mentB s) := rfl
  rw [hX]
  refine pure_of (G := G.toPg) (fn := Try.f46) Try.func46 rfl rfl rfl ?_; intro Γ hk
  repeat' (first | refine yo ?_ ?_ | refine yw ?_ ?_ | refine yk ?_ ?_ | exact trivial | with_reducible refine wA ?_ ?_ | refine ys ?_ ?_ | refine xs_done ?_ | refine yl ?_ ?_ | refine w8 ?_ | refine w9 ?_ | refine w1 ?_ | refine w2 ?_ | refine w3 ?_ | refine w4 ?_ | refine w5 ?_ | refine w6 ?_ | refine w7 ?_ | refine yo0 ?_ ?_ | refine yw0 ?_ ?_ | exact qq | fail)
  generalize hR : refsE e = R at *
  have cc := containsFuncE_c R _ _ _ (named_p s) (by omega)
  refine pop_rowsc [] rfl rfl rfl rfl rfl rfl .nil rc (by exact ⟨PEq.refl _, PEq.cl _ (fun i _ => clL_nth _ i (cX_cl _)), trivial⟩) ?_
  rintro r rows ⟨k, hk2, rfl, rfl⟩
  subst hk2
  cases R with
  | nil =>
    refine ⟨_, _, rfl, ⟨v_cl cX_cl _ _ _, trivial⟩, rfl, ?_⟩
    repeat' (first | refine yo ?_ ?_ | refine yw ?_ ?_ | refine yk ?_ ?_ | exact trivial | with_reducible refine wA ?_ ?_ | refine ys ?_ ?_ | refine xs_done ?_ | refine yl ?_ ?_ | refine w8 ?_ | refine w9 ?_ | refine w1 ?_ | refine w2 ?_ | refine w3 ?_ | refine w4 ?_ | refine w5 ?_ | refine w6 ?_ | refine w7 ?_ | refine yo0 ?_ ?_ | refine yw0 ?_ ?_ | exact qq | fail)
    refine pop_callM [1, 2] [] rfl rfl rfl rfl rfl cc (by exact ⟨argM (arg_v (n := 0) (l := 2) cX_cl rfl (List.Mem.tail _ (List.Mem.head _))), argM_clo (fun i hi => by
      have hi : i < 1 := hi
      obtain rfl : i = 0 := by omega
      exact argM_ptr (l := 1) rfl trivial (List.Mem.head _) (Nat.le_refl _) rfl (fun a ha b hb => by
        obtain rfl : b = 0 := by omega
        exact argM (argCl trivial))), trivial⟩) ?_
    rintro _ rfl
    refine ⟨trivial, ?_⟩
    repeat' (first | refine yo ?_ ?_ | refine yw ?_ ?_ | refine yk ?_ ?_ | exact trivial | with_reducible refine wA ?_ ?_ | refine ys ?_ ?_ | refine xs_done ?_ | refine yl ?_ ?_ | refine w8 ?_ | refine w9 ?_ | refine w1 ?_ | refine w2 ?_ | refine w3 ?_ | refine w4 ?_ | refine w5 ?_ | refine w6 ?_ | refine w7 ?_ | refine yo0 ?_ ?_ | refine yw0 ?_ ?_ | exact qq | fail)
    exact kretv rfl ⟨trivial, trivial⟩ rfl rfl
  | cons a R =>
    refine ⟨_, _, rfl, ⟨v_cl cX_cl _ _ _, trivial⟩, rfl, ?_⟩
    repeat' (first | refine yo ?_ ?_ | refine yw ?_ ?_ | refine yk ?_ ?_ | exact trivial | with_reducible refine wA ?_ ?_ | refine ys ?_ ?_ | refine xs_done ?_ | refine yl ?_ ?_ | refine w8 ?_ | refine w9 ?_ | refine w1 ?_ | refine w2 ?_ | refine w3 ?_ | refine w4 ?_ | refine w5 ?_ | refine w6 ?_ | refine w7 ?_ | refine yo0 ?_ ?_ | refine yw0 ?_ ?_ | exact qq | fail)
    refine pop_callM [1, 2] [] rfl rfl rfl rfl rfl cc (by exact ⟨argM (arg_v (n := (R.length + 1)) (l := 2) cX_cl rfl (List.Mem.tail _ (List.Mem.head _))), argM_clo (fun i hi => by
      have hi : i < 1 := hi
      obtain rfl : i = 0 := by omega
      exact argM_ptr (l := 1) rfl trivial (List.Mem.head _) (Nat.le_refl _) rfl (fun a ha b hb => by
        obtain rfl : b = 0 := by omega
        exact argM (argCl trivial))), trivial⟩) ?_
    rintro _ rfl
    refine ⟨trivial, ?_⟩
    repeat' (first | refine yo ?_ ?_ | refine yw ?_ ?_ | refine yk ?_ ?_ | exact trivial | with_reducible refine wA ?_ ?_ | refine ys ?_ ?_ | refine xs_done ?_ | refine yl ?_ ?_ | refine w8 ?_ | refine w9 ?_ | refine w1 ?_ | refine w2 ?_ | refine w3 ?_ | refine w4 ?_ | refine w5 ?_ | refine w6 ?_ | refine w7 ?_ | refine yo0 ?_ ?_ | refine yw0 ?_ ?_ | exact qq | fail)
    exact kretv rfl ⟨trivial, trivial⟩ rfl rfl
end Go.Proofs.Ytcefhgomkehokaa
namespace Go.Proofs.Ytcefhgomkehokaa
theorem deleteFunc1_r (n : Nat) (D : List Int) (hD : D.length = n) (F : FuncId) (c : Nat → PV) (p : Int → Bool) (hF : PrdC1 F c p) (hn : n ≤ 1000000000) :
    RowsC G.P 47 [iRow n (lF 0 D)] [.lsl 0 0 n, .clo F 1 c] (fun r rows => r = .lsl 0 0 (D.filter fun x => !p x).length ∧ rows = [iRow (D.filter fun x => !p x).length (lF 0 (D.filter fun x => !p x))]) := by
  have c1 := indexFunc1_c n (lF 0 D) F c p hF hn
  refine rows_of (G := G.toPg) (fn := Try.f47) Try.func47 rfl rfl rfl ?_; intro Γ hk
  repeat' (first | refine yo ?_ ?_ | refine yw ?_ ?_ | refine yk ?_ ?_ | exact trivial | with_reducible refine wA ?_ ?_ | refine ys ?_ ?_ | refine xs_done ?_ | refine yl ?_ ?_ | refine w8 ?_ | refine w9 ?_ | refine w1 ?_ | refine w2 ?_ | refine w3 ?_ | refine w4 ?_ | refine w5 ?_ | refine w6 ?_ | refine w7 ?_ | refine yo0 ?_ ?_ | refine yw0 ?_ ?_ | exact qq | fail)
  refine pop_call [0] rfl rfl rfl rfl rfl c1 ⟨argLsl (r := iRow n (lF 0 D)) rfl trivial (List.Mem.head _) (by show 0 + n ≤ n; omega) (fun a ha b hb => ⟨by rw [Nat.zero_add]; rfl, trivial⟩), argCl hF.cl, trivial⟩ ?_
  rintro _ ⟨i, hi, hv, ⟨hin, hp, rfl⟩ | ⟨rfl, rfl⟩⟩
  · refine ⟨trivial, ?_⟩
    have hfi : ∀ j, j ≤ i → (D.take j).filter (fun x => !p x) = D.take j := fun j hj => by
      rw [List.filter_eq_self]
      intro x hx
      obtain ⟨q, hq, rfl⟩ := List.getElem_of_mem hx
      have hq2 : q < j := by simp at hq; omega
      have := hv q (by omega)
      rw [lF_get' (by omega)] at this
      rw [List.getElem_take]
      simp [this]
    have hf1 : (D.take (i + 1)).filter (fun x => !p x) = D.take i := by
      rw [filt_step (by omega), hfi i (Nat.le_refl _), if_neg (by simp [hp])]; simp
    have hw0 : IntKind.i64.wrap ((i : Int) + 1) = ((i + 1 : Nat) : Int) := w64 (by omega) (by omega)
    repeat' (first | refine yo ?_ ?_ | refine yw ?_ ?_ | refine yk ?_ ?_ | exact trivial | with_reducible refine wA ?_ ?_ | refine ys ?_ ?_ | refine xs_done ?_ | refine yl ?_ ?_ | refine w8 ?_ | refine w9 ?_ | refine w1 ?_ | refine w2 ?_ | refine w3 ?_ | refine w4 ?_ | refine w5 ?_ | refine w6 ?_ | refine w7 ?_ | refine yo0 ?_ ?_ | refine yw0 ?_ ?_ | exact qq | fail)
    rw [hw0]
    refine pcan (st' := ⟨[(0, .lsl 0 0 n), (1, .clo F 1 c), (5, vi i), (6, vi ((i + 1 : Nat) : Int))], [iRow n (lF 0 D)]⟩) (can_rowsv [0] (k0_sel hk rfl) rfl (.cons rfl rqq .nil) (by exact ⟨PEq.refl _, hF.eq, PEq.refl _, PEq.refl _, trivial⟩)) ?_
    refine ploop (fun q st => ∃ (j k : Nat) (f : Nat → Int), j ≤ n ∧ k < j ∧ k = ((D.take j).filter fun x => !p x).length ∧ (∀ a, a < k → f a = lF 0 ((D.take j).filter fun x => !p x) a) ∧ (∀ a, j ≤ a → f a = lF 0 D a) ∧ q = n - j ∧ st = ⟨[(0, .lsl 0 0 n), (1, .clo F 1 c), (5, vi k), (6, vi j)], [iRow n f]⟩) (n - (i + 1)) ⟨i + 1, i, lF 0 D, by omega, by omega, by rw [hf1]; simp; omega, fun a ha => by rw [hf1]; rw [lF_get' (by omega), lF_get' (by simp; omega), List.getElem_take], fun a ha => rfl, rfl, rfl⟩ ?_
    rintro _ _ ⟨j, k, f, hj, hkj, hkl, hf, hg, rfl, rfl⟩
    repeat' (first | refine yo ?_ ?_ | refine yw ?_ ?_ | refine yk ?_ ?_ | exact trivial | with_reducible refine wA ?_ ?_ | refine ys ?_ ?_ | refine xs_done ?_ | refine yl ?_ ?_ | refine w8 ?_ | refine w9 ?_ | refine w1 ?_ | refine w2 ?_ | refine w3 ?_ | refine w4 ?_ | refine w5 ?_ | refine w6 ?_ | refine w7 ?_ | refine yo0 ?_ ?_ | refine yw0 ?_ ?_ | exact qq | fail)
    refine pcond rfl ?_ ?_ <;> intro hc <;> simp at hc
    · have hw1 : IntKind.i64.wrap ((j : Int) + 1) = ((j + 1 : Nat) : Int) := w64 (by omega) (by omega)
      have hw2 : IntKind.i64.wrap ((k : Int) + 1) = ((k + 1 : Nat) : Int) := w64 (by omega) (by omega)
      have hst := filt_step (D := D) (q := fun x => !p x) (j := j) (by omega)
      repeat' (first | refine yo ?_ ?_ | refine yw ?_ ?_ | refine yk ?_ ?_ | exact trivial | with_reducible refine wA ?_ ?_ | refine ys ?_ ?_ | refine xs_done ?_ | refine yl ?_ ?_ | refine w8 ?_ | refine w9 ?_ | refine w1 ?_ | refine w2 ?_ | refine w3 ?_ | refine w4 ?_ | refine w5 ?_ | refine w6 ?_ | refine w7 ?_ | refine yo0 ?_ ?_ | refine yw0 ?_ ?_ | exact qq | fail)
      refine pop_rowsc [] rfl rfl rfl rfl rfl rfl .nil (pure_rows (hF.run (lF 0 D j))) (by exact ⟨PEq.of (by show vi (f (0 + (j : Int).toNat)) = _; rw [show 0 + (j : Int).toNat = j by omega, hg j (Nat.le_refl _)]), PEq.cl _ hF.c0, trivial⟩) ?_
      rintro _ _ ⟨rfl, rfl⟩
      refine ⟨_, _, rfl, trivial, rfl, ?_⟩
      cases hpj : p (lF 0 D j) with
      | true =>
        rw [if_neg (by simp [hpj]), List.append_nil] at hst
        repeat' (first | refine yo ?_ ?_ | refine yw ?_ ?_ | refine yk ?_ ?_ | exact trivial | with_reducible refine wA ?_ ?_ | refine ys ?_ ?_ | refine xs_done ?_ | refine yl ?_ ?_ | refine w8 ?_ | refine w9 ?_ | refine w1 ?_ | refine w2 ?_ | refine w3 ?_ | refine w4 ?_ | refine w5 ?_ | refine w6 ?_ | refine w7 ?_ | refine yo0 ?_ ?_ | refine yw0 ?_ ?_ | exact qq | fail)
        rw [hw1]
        exact kloop_next (st' := ⟨[(0, .lsl 0 0 n), (1, .clo F 1 c), (5, vi k), (6, vi ((j + 1 : Nat) : Int))], [iRow n f]⟩) (n - (j + 1)) (can_rowsv [0] (k0_sel hk rfl) rfl (.cons rfl rqq .nil) (by exact ⟨PEq.refl _, hF.eq, PEq.refl _, PEq.refl _, trivial⟩)) (by omega) ⟨j + 1, k, f, by omega, by omega, by rw [hst]; exact hkl, by rw [hst]; exact hf, fun a ha => hg a (by omega), rfl, rfl⟩
      | false =>
        rw [if_pos (by simp [hpj])] at hst
        have hlen : ((D.take (j + 1)).filter fun x => !p x).length = k + 1 := by rw [hst, List.length_append, ← hkl]; rfl
        repeat' (first | refine yo ?_ ?_ | refine yw ?_ ?_ | refine yk ?_ ?_ | exact trivial | with_reducible refine wA ?_ ?_ | refine ys ?_ ?_ | refine xs_done ?_ | refine yl ?_ ?_ | refine w8 ?_ | refine w9 ?_ | refine w1 ?_ | refine w2 ?_ | refine w3 ?_ | refine w4 ?_ | refine w5 ?_ | refine w6 ?_ | refine w7 ?_ | refine yo0 ?_ ?_ | refine yw0 ?_ ?_ | exact qq | fail)
        rw [hw1, hw2]
        have hg2 : ∀ a, k < a → (upd f k (f j)) a = f a := fun a ha => if_neg (by omega)
        have hg3 : (upd f k (f j)) k = lF 0 D j := by unfold upd; rw [if_pos rfl, hg j (Nat.le_refl _)]
        have hg4 : ∀ a, a < k → (upd f k (f j)) a = f a := fun a ha => if_neg (by omega)
        refine kloop_next (st' := ⟨[(0, .lsl 0 0 n), (1, .clo F 1 c), (5, vi ((k + 1 : Nat) : Int)), (6, vi ((j + 1 : Nat) : Int))], [iRow n (upd f k (f j))]⟩) (n - (j + 1)) (can_rowsv [0] (k0_sel hk rfl) rfl (.cons rfl (i_eq (Nat.le_refl _) fun a ha => ?_) .nil) (by exact ⟨PEq.refl _, hF.eq, PEq.refl _, PEq.refl _, trivial⟩)) (by omega) ⟨j + 1, k + 1, _, by omega, by omega, hlen.symm, fun a ha => ?_, fun a ha => by rw [hg2 a (by omega)]; exact hg a (by omega), rfl, rfl⟩
        · show updR (tI f) (0 + (k : Int).toNat) [vi (f (0 + (j : Int).toNat))] a 0 = _
          rw [show 0 + (k : Int).toNat = k by omega, show 0 + (j : Int).toNat = j by omega]
          exact upd_eq f k (f j) a 0 rfl
        · by_cases e : a = k
          · subst e
            rw [hg3, hst]
            have := lF_at (d := 0) (y := lF 0 D j) (l := (D.take j).filter fun x => !p x) (r := [])
            rw [← hkl] at this; exact this.symm
          · rw [hg4 a (by omega), hf a (by omega), hst, lF_lt (by omega)]
    · have hjn : j = n := by omega
      subst hjn
      have hT : D.take j = D := by rw [← hD]; simp
      rw [hT] at hkl hf
      rw [← hkl]
      repeat' (first | refine yo ?_ ?_ | refine yw ?_ ?_ | refine yk ?_ ?_ | exact trivial | with_reducible refine wA ?_ ?_ | refine ys ?_ ?_ | refine xs_done ?_ | refine yl ?_ ?_ | refine w8 ?_ | refine w9 ?_ | refine w1 ?_ | refine w2 ?_ | refine w3 ?_ | refine w4 ?_ | refine w5 ?_ | refine w6 ?_ | refine w7 ?_ | refine yo0 ?_ ?_ | refine yw0 ?_ ?_ | exact qq | fail)
      show POps _ _ _ _ (_ :: _) _ _
      refine pop_clear (G := G.toPg) hu_int hz_int rfl rfl rfl rfl rfl rfl rfl rfl ?_
      repeat' (first | refine yo ?_ ?_ | refine yw ?_ ?_ | refine yk ?_ ?_ | exact trivial | with_reducible refine wA ?_ ?_ | refine ys ?_ ?_ | refine xs_done ?_ | refine yl ?_ ?_ | refine w8 ?_ | refine w9 ?_ | refine w1 ?_ | refine w2 ?_ | refine w3 ?_ | refine w4 ?_ | refine w5 ?_ | refine w6 ?_ | refine w7 ?_ | refine yo0 ?_ ?_ | refine yw0 ?_ ?_ | exact qq | fail)
      · exact ⟨trivial, trivial, by omega, by omega, by omega⟩
      refine xdone ?_
      refine kretr (st' := ⟨[(4, .lsl 0 0 k)], [iRow k (lF 0 (D.filter fun x => !p x))]⟩) (can_rowsv [0] (k0_sel hk rfl) rfl (.cons rfl (i_eq (by show k ≤ j; omega) fun a ha => ?_) .nil) (by exact ⟨PEq.of (by show PV.lsl 0 0 _ = _; congr 1), trivial⟩)) rfl ⟨trivial, trivial⟩ rfl ⟨rfl, rfl⟩
      show clrF _ _ (tI f) a 0 = _
      unfold clrF
      rw [if_neg (by omega)]
      · show vi (f a) = _
        rw [hf a ha]
      · exact ⟨trivial, trivial, by omega, by omega, by omega⟩
  · refine ⟨trivial, ?_⟩
    have hM : (D.filter fun x => !p x) = D := by
      rw [List.filter_eq_self]
      intro x hx
      obtain ⟨j, hj, rfl⟩ := List.getElem_of_mem hx
      have := hv j (by omega)
      rw [lF_get' hj] at this
      simp [this]
    rw [hM, hD]
    repeat' (first | refine yo ?_ ?_ | refine yw ?_ ?_ | refine yk ?_ ?_ | exact trivial | with_reducible refine wA ?_ ?_ | refine ys ?_ ?_ | refine xs_done ?_ | refine yl ?_ ?_ | refine w8 ?_ | refine w9 ?_ | refine w1 ?_ | refine w2 ?_ | refine w3 ?_ | refine w4 ?_ | refine w5 ?_ | refine w6 ?_ | refine w7 ?_ | refine yo0 ?_ ?_ | refine yw0 ?_ ?_ | exact qq | fail)
    refine xdone ?_
    exact kretr (st' := ⟨[(4, .lsl 0 0 i)], [iRow i (lF 0 D)]⟩) (can_rowsv [0] (k0_sel hk rfl) rfl (by (repeat (refine SelV.cons rfl rqq ?_)); exact SelV.nil) tmq) rfl ⟨trivial, trivial⟩ rfl ⟨rfl, rfl⟩
end Go.Proofs.Ytcefhgomkehokaa
namespace Go.Proofs.Ytcefhgomkehokaa
theorem rows_drop {P : Program} {f : FuncId} {rows : List Row} {args : List PV} {post post' : PV → List Row → Prop} (h : RowsC P f rows args post) (hp : ∀ r rows', post r rows' → ∃ n, rows.length ≤ n ∧ n ≤ rows'.length ∧ post' r (rows'.take n) ∧ (∀ x r0, x < n → rows'[x]? = some r0 → r0.s ≠ .mp ∧ rowCl r0) ∧ ∀ ρ I w v, VRel rows'.length ρ I w r v → VRel n ρ I w r v) : RowsC P f rows args post' :=
  ⟨h.1, fun ρ A w vs hm hG hl hv => (h.2 ρ A w vs hm hG hl hv).mono fun e w' ⟨v, r, rows', ρ', I', he, hpost, hex, hfr, hrv⟩ => by
    obtain ⟨n, h1, h2, h3, h4, h5⟩ := hp r rows' hpost
    have get : ∀ {x : Nat} {r0 : Row}, (rows'.take n)[x]? = some r0 → x < n ∧ rows'[x]? = some r0 := fun {x r0} hx => by
      rw [List.getElem?_take] at hx
      split at hx
      · exact ⟨by assumption, hx⟩
      · cases hx
    have hlen : (rows'.take n).length = n := by rw [List.length_take]; omega
    refine ⟨v, r, rows'.take n, ρ', I', he, h3, fun x r0 hx hx2 hs => hex x r0 hx (get hx2).2 hs, ⟨⟨fun x r0 hx hs => ?_, fun x y r0 r1 hne hx hy => hfr.m.apart x y r0 r1 hne (get hx).2 (get hy).2, fun x r0 hx => hfr.m.mine x r0 (get hx).2, fun x r0 hx => hfr.m.imm x r0 (get hx).2, hfr.m.lt, fun x r0 hx hs => absurd hs (h4 x r0 (get hx).1 (get hx).2).1, fun x y r0 r1 hne hx hy hs => absurd hs (h4 x r0 (get hx).1 (get hx).2).1⟩, hfr.os, hfr.tape, hfr.output, hfr.size, hfr.block, hfr.shape, hfr.old, hfr.new, fun x r0 hx => hfr.own x r0 (get hx).2, fun x r0 hx => hfr.fresh x r0 (get hx).2, by rw [hlen]; exact h1, hfr.ρ0, fun x r0 hx hs => absurd hs (h4 x r0 (get hx).1 (get hx).2).1, hfr.gl⟩, by rw [hlen]; exact h5 _ _ _ _ hrv⟩
    obtain ⟨g1, cs, T, g2, g3⟩ := hfr.m.row x r0 (get hx).2 hs
    exact ⟨g1, cs, T, g2, fun i hi j hj => by obtain ⟨u, k1, k2, k3⟩ := g3 i hi j hj; exact ⟨u, k1, k2, VRel.close _ _ _ _ ((h4 x r0 (get hx).1 (get hx).2).2 i hi j hj) k3⟩⟩⟩
theorem gr_rel {k : Nat} {c : PV} {ρ : Nat → Loc} {I : Nat → Prop} {w : World} {v : Value} (h : VRel 2 ρ I w (.tup 2 (nthP [.agg 2 (nthP [slP k 0, .vmap c]), vi 0])) v) : VRel 1 ρ I w (.tup 2 (nthP [.agg 2 (nthP [slP k 0, .vmap c]), vi 0])) v := by
  obtain ⟨vs, h1, h2, h3⟩ := h
  refine ⟨vs, h1, h2, fun i hi => ?_⟩
  obtain rfl | rfl : i = 0 ∨ i = 1 := by omega
  · obtain ⟨us, g1, g2, g3⟩ := h3 0 (by omega)
    refine ⟨us, g1, g2, fun j hj => ⟨(g3 j hj).1, ?_⟩⟩
    obtain rfl | rfl : j = 0 ∨ j = 1 := by omega
    · cases k with
      | zero => exact VRel.close (ρ := ρ) _ _ _ _ trivial (g3 0 (by omega)).2
      | succ k =>
        have := (g3 0 (by omega)).2
        exact ⟨by omega, this.2⟩
    · exact VRel.close (ρ := ρ) _ _ _ _ trivial (g3 1 (by omega)).2
  · exact VRel.close (ρ := ρ) _ _ _ _ trivial (h3 1 (by omega))
theorem newGraph_d (nm : ByteArray) (l : List Df) (day : Int) (h : AgO nm l) (hl : l.length ≤ 1000000) (he : gErr nm l day = 0) : RowsC G.P 21 [] [vA nm l, vi day] (fun r rows => ∃ k, (nodS l day).length = k ∧ r = .tup 2 (nthP [.agg 2 (nthP [slP k 0, .vmap (cS (mapS l day))]), vi 0]) ∧ rows = [vRow c1 1 k (lF 0 (nodS l day))]) := rows_drop (newGraph_r nm l day h hl) fun r rows hr => by
  rcases hr with ⟨h1, _⟩ | ⟨_, k, hk2, rfl, rfl⟩
  · exact absurd he h1
  · refine ⟨1, Nat.zero_le _, (by show 1 ≤ 2; decide), ⟨k, hk2, rfl, rfl⟩, fun x r0 hx h0 => ?_, fun ρ I w v hv => gr_rel hv⟩
    obtain rfl : x = 0 := by omega
    have h0 : some (vRow c1 1 k (lF 0 (nodL l (actL l day)))) = some r0 := h0
    injection h0 with h0
    subst h0
    refine ⟨?_, v_cl c1_cl _ _ _⟩
    cases k <;> (intro hh; cases hh)
theorem deleteFunc10_c (F : FuncId) (c : Nat → PV) (p : Int → Bool) (hF : PrdC1 F c p) (f : Nat → Int) : PureC G.P 47 [.vsl 0 1 (tI f), .clo F 1 c] (fun r => r = .vsl 0 1 (tI f)) := by
  have c1 := indexFunc1_c 0 f F c p hF (by decide)
  refine pure_of (G := G.toPg) (fn := Try.f47) Try.func47 rfl rfl rfl ?_; intro Γ hk
  repeat' (first | refine yo ?_ ?_ | refine yw ?_ ?_ | refine yk ?_ ?_ | exact trivial | with_reducible refine wA ?_ ?_ | refine ys ?_ ?_ | refine xs_done ?_ | refine yl ?_ ?_ | refine w8 ?_ | refine w9 ?_ | refine w1 ?_ | refine w2 ?_ | refine w3 ?_ | refine w4 ?_ | refine w5 ?_ | refine w6 ?_ | refine w7 ?_ | refine yo0 ?_ ?_ | refine yw0 ?_ ?_ | exact qq | fail)
  refine pop_call [] rfl rfl rfl rfl rfl c1 ⟨argVsl, argCl hF.cl, trivial⟩ ?_
  rintro _ ⟨i, hi, hv, ⟨hin, hp, rfl⟩ | ⟨rfl, rfl⟩⟩
  · omega
  · refine ⟨trivial, ?_⟩
    repeat' (first | refine yo ?_ ?_ | refine yw ?_ ?_ | refine yk ?_ ?_ | exact trivial | with_reducible refine wA ?_ ?_ | refine ys ?_ ?_ | refine xs_done ?_ | refine yl ?_ ?_ | refine w8 ?_ | refine w9 ?_ | refine w1 ?_ | refine w2 ?_ | refine w3 ?_ | refine w4 ?_ | refine w5 ?_ | refine w6 ?_ | refine w7 ?_ | refine yo0 ?_ ?_ | refine yw0 ?_ ?_ | exact qq | fail)
    exact kretv rfl ⟨trivial, trivial⟩ rfl rfl
end Go.Proofs.Ytcefhgomkehokaa
namespace Go.Proofs.Ytcefhgomkehokaa
open Go.MapKept
def dnStep (L : List (Int × List Int)) (nx : Int) (out : List Int) (i : Int) : List Int := if ¬ i ∈ out ∧ nx ∈ sget L i then out ++ [i] else out
def dnIn (L : List (Int × List Int)) (nx : Int) (out N : List Int) : List Int := N.foldl (dnStep L nx) out
theorem dnIn_snoc {L : List (Int × List Int)} {nx : Int} {out N : List Int} {i : Int} : dnIn L nx out (N ++ [i]) = dnStep L nx (dnIn L nx out N) i := by
  unfold dnIn; rw [List.foldl_append]; rfl
def dnF (N : List Int) (L : List (Int × List Int)) : Nat → Nat → List Int → List Int
  | 0, _, out => out
  | f + 1, p, out => if p < out.length then dnF N L f (p + 1) (dnIn L (lF 0 out p) out N) else out
def dn0 (l : List Df) (s : ByteArray) (N : List Int) : List Int := N.filter fun x => mentS (lF dD l x.toNat).body s
def dnS (l : List Df) (day : Int) (s : ByteArray) : List Int := dnF (nodS l day) (mapS l day) ((nodS l day).length + 1) 0 (dn0 l s (nodS l day))
def DwnS (nm : ByteArray) (l : List Df) (day : Int) (s : ByteArray) : List Int := if gErr nm l day ≠ 0 then [] else (nodS l day).filter fun x => decide (x ∈ dnS l day s)
structure InvN (N out : List Int) : Prop where
  nd : out.Nodup
  sub : ∀ x, x ∈ out → x ∈ N
theorem InvN.len {N out : List Int} (h : InvN N out) : out.length ≤ N.length := nd_len h.nd h.sub
theorem InvN.snoc {N out : List Int} {i : Int} (h : InvN N out) (hi : i ∈ N) (hno : ¬ i ∈ out) : InvN N (out ++ [i]) := ⟨by
  rw [List.nodup_append]
  exact ⟨h.nd, by simp, fun a ha b hb => by
    have : b = i := by simpa using hb
    subst this
    exact fun e => hno (e ▸ ha)⟩, fun x hx => by
  rcases List.mem_append.1 hx with hx | hx
  · exact h.sub x hx
  · rw [List.mem_singleton.1 hx]; exact hi⟩
theorem InvN.step {N out : List Int} {L : List (Int × List Int)} {nx i : Int} (h : InvN N out) (hi : i ∈ N) : InvN N (dnStep L nx out i) := by
  unfold dnStep
  split
  · rename_i hc; exact h.snoc hi hc.1
  · exact h
theorem InvN.fold {N : List Int} {L : List (Int × List Int)} {nx : Int} : ∀ (A out : List Int), InvN N out → (∀ x, x ∈ A → x ∈ N) → InvN N (dnIn L nx out A)
  | [], out, h, _ => h
  | a :: A, out, h, hA => InvN.fold A (dnStep L nx out a) (h.step (hA a (List.mem_cons_self ..))) (fun x hx => hA x (List.mem_cons_of_mem _ hx))
theorem reached_p (out : List Int) : PrdC1 48 (nthP [cLis out]) (fun x => !decide (x ∈ out)) := ⟨trivial, fun x => by
  refine pure_of (G := G.toPg) (fn := Try.f48) Try.func48 rfl rfl rfl ?_; intro Γ hk
  repeat' (first | refine yo ?_ ?_ | refine yw ?_ ?_ | refine yk ?_ ?_ | exact trivial | with_reducible refine wA ?_ ?_ | refine ys ?_ ?_ | refine xs_done ?_ | refine yl ?_ ?_ | refine w8 ?_ | refine w9 ?_ | refine w1 ?_ | refine w2 ?_ | refine w3 ?_ | refine w4 ?_ | refine w5 ?_ | refine w6 ?_ | refine w7 ?_ | refine yo0 ?_ ?_ | refine yw0 ?_ ?_ | exact qq | fail)
  refine pop_lookvB mapIBd false x rfl rfl rfl rfl rfl rfl ?_
  rw [show (bif false then PV.tup 2 (nthP [.val (bV ((mget (lsM out) x).getD 0)), vb (mget (lsM out) x).isSome]) else .val (bV ((mget (lsM out) x).getD 0))) = vb (decide (x ∈ out)) from lsM_b out x]
  repeat' (first | refine yo ?_ ?_ | refine yw ?_ ?_ | refine yk ?_ ?_ | exact trivial | with_reducible refine wA ?_ ?_ | refine ys ?_ ?_ | refine xs_done ?_ | refine yl ?_ ?_ | refine w8 ?_ | refine w9 ?_ | refine w1 ?_ | refine w2 ?_ | refine w3 ?_ | refine w4 ?_ | refine w5 ?_ | refine w6 ?_ | refine w7 ?_ | refine yo0 ?_ ?_ | refine yw0 ?_ ?_ | exact qq | fail)
  exact kretv rfl ⟨trivial, trivial⟩ rfl rfl⟩
theorem vm1 {l : Nat} {c : PV} : ∀ i, i < 1 → ∀ j, j < 1 → VM l c ((cM1 (.mref l)).f i j) ((cM1 (.vmap c)).f i j) := fun i hi j hj => VM.ref
theorem gErr_chk {nm : ByteArray} {l : List Df} {day : Int} (h : gErr nm l day = 0) : chkE nm l day = 0 := by
  unfold gErr at h
  by_cases h1 : chkE nm l day ≠ 0
  · rw [if_pos h1] at h; exact absurd h h1
  · exact Decidable.not_not.1 h1
theorem dn0_snoc {l : List Df} {s : ByteArray} {A : List Int} {x : Int} : dn0 l s (A ++ [x]) = dn0 l s A ++ if mentS (lF dD l x.toNat).body s = true then [x] else [] := by
  unfold dn0
  rw [List.filter_append, List.filter_cons, List.filter_nil]
theorem nodS_nd (l : List Df) (day : Int) : (nodS l day).Nodup := by
  have h := (actN_asc l day l.length).filter (fun x => comp (lF dD l x.toNat))
  exact h.imp (fun hab => by omega)
theorem nodS_in {l : List Df} {day x : Int} (h : x ∈ nodS l day) : 0 ≤ x ∧ x < l.length ∧ comp (lF dD l x.toNat) = true := by
  obtain ⟨h1, h2⟩ := List.mem_filter.1 h
  have := actL_in x h1
  exact ⟨this.1, this.2, h2⟩
theorem not_not_dec {N out : List Int} : (N.filter fun x => !(!decide (x ∈ out))) = N.filter fun x => decide (x ∈ out) := by
  congr 1; funext x; rw [Bool.not_not]
set_option maxHeartbeats 16000000 in
theorem Downstream_c (nm : ByteArray) (l : List Df) (day : Int) (s : ByteArray) (h : AgO nm l) (hl : l.length ≤ 900000) : PureC G.P 29 [vA nm l, vi day, vs s] (fun r => r = sV (DwnS nm l day s)) := by
  by_cases he : gErr nm l day = 0
  · have cg := newGraph_d nm l day h (by omega) he
    have hNl := nodS_len l day
    have hvd := chk_valid (gErr_chk he)
    have hNnd := nodS_nd l day
    have hNin := fun x (hx : x ∈ nodS l day) => nodS_in hx
    have hLb : ∀ e, e ∈ mapS l day → e.2.length ≤ 1000000 := fun e he => Nat.le_trans (mapS_len l day e he) (by omega)
    have hX : DwnS nm l day s = (nodS l day).filter fun x => decide (x ∈ dnS l day s) := by unfold DwnS; rw [if_neg (fun hh => hh he)]
    have hD0 : dn0 l s (nodS l day) = [] → dnS l day s = [] := fun e => by unfold dnS; rw [e, dnF]; rfl
    refine pure_of (G := G.toPg) (fn := Try.f29) Try.func29 rfl rfl rfl ?_; intro Γ hk
    repeat' (first | refine yo ?_ ?_ | refine yw ?_ ?_ | refine yk ?_ ?_ | exact trivial | with_reducible refine wA ?_ ?_ | refine ys ?_ ?_ | refine xs_done ?_ | refine yl ?_ ?_ | refine w8 ?_ | refine w9 ?_ | refine w1 ?_ | refine w2 ?_ | refine w3 ?_ | refine w4 ?_ | refine w5 ?_ | refine w6 ?_ | refine w7 ?_ | refine yo0 ?_ ?_ | refine yw0 ?_ ?_ | exact qq | fail)
    refine pop_rowsc [] rfl rfl rfl rfl rfl rfl .nil cg (by exact ⟨PEq.cl (vA nm l) (clA ⟨trivial, trivial, trivial⟩), PEq.refl _, trivial⟩) ?_
    rintro r rows ⟨k, hk2, rfl, rfl⟩
    generalize hN : nodS l day = N at *
    generalize hL : mapS l day = L at *
    rcases k with _ | k
    · refine ⟨_, _, rfl, ⟨v_cl c1_cl _ _ _, trivial⟩, rfl, ?_⟩
      repeat' (first | refine yo ?_ ?_ | refine yw ?_ ?_ | refine yk ?_ ?_ | exact trivial | with_reducible refine wA ?_ ?_ | refine ys ?_ ?_ | refine xs_done ?_ | refine yl ?_ ?_ | refine w8 ?_ | refine w9 ?_ | refine w1 ?_ | refine w2 ?_ | refine w3 ?_ | refine w4 ?_ | refine w5 ?_ | refine w6 ?_ | refine w7 ?_ | refine yo0 ?_ ?_ | refine yw0 ?_ ?_ | exact qq | fail)
      refine pop_mkmapB kI rfl rfl rfl rfl rfl ?_
      repeat' (first | refine yo ?_ ?_ | refine yw ?_ ?_ | refine yk ?_ ?_ | exact trivial | with_reducible refine wA ?_ ?_ | refine ys ?_ ?_ | refine xs_done ?_ | refine yl ?_ ?_ | refine w8 ?_ | refine w9 ?_ | refine w1 ?_ | refine w2 ?_ | refine w3 ?_ | refine w4 ?_ | refine w5 ?_ | refine w6 ?_ | refine w7 ?_ | refine yo0 ?_ ?_ | refine yw0 ?_ ?_ | exact qq | fail)
      refine ploopN 1 ?_
      repeat' (first | refine yo ?_ ?_ | refine yw ?_ ?_ | refine yk ?_ ?_ | exact trivial | with_reducible refine wA ?_ ?_ | refine ys ?_ ?_ | refine xs_done ?_ | refine yl ?_ ?_ | refine w8 ?_ | refine w9 ?_ | refine w1 ?_ | refine w2 ?_ | refine w3 ?_ | refine w4 ?_ | refine w5 ?_ | refine w6 ?_ | refine w7 ?_ | refine yo0 ?_ ?_ | refine yw0 ?_ ?_ | exact qq | fail)
      refine ploopN 1 ?_
      repeat' (first | refine yo ?_ ?_ | refine yw ?_ ?_ | refine yk ?_ ?_ | exact trivial | with_reducible refine wA ?_ ?_ | refine ys ?_ ?_ | refine xs_done ?_ | refine yl ?_ ?_ | refine w8 ?_ | refine w9 ?_ | refine w1 ?_ | refine w2 ?_ | refine w3 ?_ | refine w4 ?_ | refine w5 ?_ | refine w6 ?_ | refine w7 ?_ | refine yo0 ?_ ?_ | refine yw0 ?_ ?_ | exact qq | fail)
      refine ocan0 (st' := ⟨[(82, .val (.slice none 0 0)), (83, .clo 48 1 (nthP [cLis []]))], []⟩) ((((can_rowsv [3, 4] (tm := [(82, .val (.slice none 0 0)), (83, .clo 48 1 (nthP [.ptr 1 0 0]))]) (rows := [mRowB kI (lsM []), cM1 (.mref 0)]) (k0_sel hk rfl) rfl (.cons rfl m_eqB (.cons rfl (cM1_eq (PEq.refl _)) .nil)) (by exact ⟨PEq.refl _, PEq.clo1 (PEq.refl _), trivial⟩)).trans (can_vmap (one := false) (n := 0) (f := fun _ _ => .val (mVB kI (lsM []))) 0 (by rw [hk]; exact Nat.zero_le _) rfl trivial (tm := [(82, .val (.slice none 0 0)), (83, .clo 48 1 (nthP [.ptr 1 0 0]))]) (rows := [deadR, cM1 (.vmap (.val (mVB kI (lsM []))))]) (by exact ⟨VM.refl, VM.refl, trivial⟩) (by exact ⟨.inl rfl, .inr ⟨trivial, rfl, rfl, rfl, vm1⟩, trivial⟩))).trans (can_frz [1] (by intro l hl; rw [hk]; exact Nat.zero_le _) rfl (tm := [(82, .val (.slice none 0 0)), (83, .clo 48 1 (nthP [cLis []]))]) (by exact ⟨.inl rfl, .inr (argClo1 (argPtr (r := cM1 (.vmap (.val (mVB kI (lsM []))))) rfl trivial (List.Mem.head _) (Nat.le_refl _) rfl (fun a ha b hb => argCl trivial))), trivial⟩))).trans (can_rowsv [] (k0_sel hk rfl) rfl .nil (by exact ⟨PEq.refl _, PEq.cl _ (reached_p []).cl, trivial⟩))) ?_
      refine pop_callc [] rfl rfl rfl rfl rfl rfl (fun _ h => by cases h) (deleteFunc10_c _ _ _ (reached_p []) (lF 0 [])) ⟨argNil, argCl (reached_p []).cl, trivial⟩ ?_
      rintro _ rfl
      repeat' (first | refine yo ?_ ?_ | refine yw ?_ ?_ | refine yk ?_ ?_ | exact trivial | with_reducible refine wA ?_ ?_ | refine ys ?_ ?_ | refine xs_done ?_ | refine yl ?_ ?_ | refine w8 ?_ | refine w9 ?_ | refine w1 ?_ | refine w2 ?_ | refine w3 ?_ | refine w4 ?_ | refine w5 ?_ | refine w6 ?_ | refine w7 ?_ | refine yo0 ?_ ?_ | refine yw0 ?_ ?_ | exact qq | fail)
      refine kretv rfl ⟨trivial, trivial⟩ rfl ?_
      rw [hX, List.length_eq_zero_iff.1 hk2]; rfl
    · refine ⟨_, _, rfl, ⟨v_cl c1_cl _ _ _, trivial⟩, rfl, ?_⟩
      repeat' (first | refine yo ?_ ?_ | refine yw ?_ ?_ | refine yk ?_ ?_ | exact trivial | with_reducible refine wA ?_ ?_ | refine ys ?_ ?_ | refine xs_done ?_ | refine yl ?_ ?_ | refine w8 ?_ | refine w9 ?_ | refine w1 ?_ | refine w2 ?_ | refine w3 ?_ | refine w4 ?_ | refine w5 ?_ | refine w6 ?_ | refine w7 ?_ | refine yo0 ?_ ?_ | refine yw0 ?_ ?_ | exact qq | fail)
      refine pop_mkmapB kI rfl rfl rfl rfl rfl ?_
      repeat' (first | refine yo ?_ ?_ | refine yw ?_ ?_ | refine yk ?_ ?_ | exact trivial | with_reducible refine wA ?_ ?_ | refine ys ?_ ?_ | refine xs_done ?_ | refine yl ?_ ?_ | refine w8 ?_ | refine w9 ?_ | refine w1 ?_ | refine w2 ?_ | refine w3 ?_ | refine w4 ?_ | refine w5 ?_ | refine w6 ?_ | refine w7 ?_ | refine yo0 ?_ ?_ | refine yw0 ?_ ?_ | exact qq | fail)
      refine pcan ((can_virt (vRow c1 1 0 (lF 0 [])) rfl).trans (can_rowsv [0, 1, 2, 3, 4, 5] (tm := [(2, vs s), (3, .ptr 0 0 0), (7, .ptr 2 0 0), (9, .ptr 4 0 0), (10, slP (0) 5), (26, .lsl 1 0 (k + 1)), (27, vi ((k + 1 : Nat) : Int)), (28, vi ((0 : Nat) : Int))]) (rows := [rA1 nm l, vRow c1 1 (k + 1) (lF 0 N), cG (.lsl 1 0 (k + 1)) (.vmap (cS L)), mRowB kI (lsM ([])), cM1 (.mref 3), vRow c1 1 (0) (lF 0 ([]))]) (k0_sel hk rfl) rfl (.cons rfl (RowEq.cl (rA1_cl _ _)) (.cons rfl (RowEq.cl (v_cl c1_cl _ _ _)) (.cons rfl (cG_eq (PEq.refl _) (PEq.refl _)) (.cons rfl m_eqB (.cons rfl (cM1_eq (PEq.refl _)) (.cons rfl (RowEq.cl (v_cl c1_cl _ _ _)) .nil)))))) tmq)) ?_
      refine ploop (fun q st => ∃ (i m : Nat) (out : List Int), i ≤ N.length ∧ out = dn0 l s (N.take i) ∧ out.length = m ∧ q = N.length - i ∧ st = ⟨[(2, vs s), (3, .ptr 0 0 0), (7, .ptr 2 0 0), (9, .ptr 4 0 0), (10, slP (m) 5), (26, .lsl 1 0 (k + 1)), (27, vi ((k + 1 : Nat) : Int)), (28, vi i)], [rA1 nm l, vRow c1 1 (k + 1) (lF 0 N), cG (.lsl 1 0 (k + 1)) (.vmap (cS L)), mRowB kI (lsM (out)), cM1 (.mref 3), vRow c1 1 (m) (lF 0 (out))]⟩) N.length ⟨0, 0, [], Nat.zero_le _, by rw [List.take_zero]; rfl, rfl, rfl, rfl⟩ ?_
      rintro _ _ ⟨i, m, out, hi, ho, hm, rfl, rfl⟩
      have hw1 : IntKind.i64.wrap ((i : Int) + 1) = ((i + 1 : Nat) : Int) := w64 (by omega) (by omega)
      have hmb : m ≤ 1000000 := by rw [← hm, ho]; exact Nat.le_trans (List.length_filter_le _ _) (by rw [List.length_take]; omega)
      rcases m with _ | m
      · --
        repeat' (first | refine yo ?_ ?_ | refine yw ?_ ?_ | refine yk ?_ ?_ | exact trivial | with_reducible refine wA ?_ ?_ | refine ys ?_ ?_ | refine xs_done ?_ | refine yl ?_ ?_ | refine w8 ?_ | refine w9 ?_ | refine w1 ?_ | refine w2 ?_ | refine w3 ?_ | refine w4 ?_ | refine w5 ?_ | refine w6 ?_ | refine w7 ?_ | refine yo0 ?_ ?_ | refine yw0 ?_ ?_ | exact qq | fail)
        refine pcond rfl ?_ ?_ <;> intro hc
        · have hc : i < k + 1 := by have := of_decide_eq_true hc; omega
          have hT : N.take (i + 1) = N.take i ++ [lF 0 N i] := by
            unfold lF
            rw [List.take_add_one, List.getD_eq_getElem?_getD, List.getElem?_eq_getElem (by omega)]; rfl
          have hxN : lF 0 N i ∈ N := by rw [lF_get' (by omega)]; exact List.getElem_mem (by omega)
          have hx := hNin _ hxN
          have hx3 : (lF 0 N i).toNat < l.length := by omega
          have hbo := h.body hvd hx3 hx.2.2
          have hz : 0 + ((i : Nat) : Int).toNat = i := by omega
          have cm := mentions_c (lF dD l (lF 0 N (0 + ((i : Nat) : Int).toNat)).toNat).body s (by rw [hz]; exact hbo.1) (by rw [hz]; exact hbo.2)
          rw [show mentS (lF dD l (lF 0 N (0 + ((i : Nat) : Int).toNat)).toNat).body s = mentS (lF dD l (lF 0 N i).toNat).body s by rw [hz]] at cm
          have hS := dn0_snoc (l := l) (s := s) (A := N.take i) (x := lF 0 N i)
          rw [← hT, ← ho] at hS
          have hnot : ¬ lF 0 N i ∈ out := fun hh => by
            rw [ho] at hh
            have h1 := (List.mem_filter.1 hh).1
            have h2 : (N.take i ++ [lF 0 N i]).Nodup := hT ▸ hNnd.sublist (List.take_sublist _ _)
            rw [List.nodup_append] at h2
            exact h2.2.2 _ h1 _ (List.mem_singleton.2 rfl) rfl
          cases hme : mentS (lF dD l (lF 0 N i).toNat).body s with
          | false =>
            rw [hme] at cm
            rw [hme, if_neg (by decide), List.append_nil] at hS
            repeat' (first | refine yo ?_ ?_ | refine yw ?_ ?_ | refine yk ?_ ?_ | exact trivial | with_reducible refine wA ?_ ?_ | refine ys ?_ ?_ | refine xs_done ?_ | refine yl ?_ ?_ | (rw [hz]; exact ⟨hx.1, hx.2.1⟩) | (rw [hz]; exact hx3) | refine z1 cm ?_ | refine z2 cm ?_ | refine z3 cm ?_ | refine z4 cm ?_ | refine z5 cm ?_ | refine w8 ?_ | refine w9 ?_ | refine w1 ?_ | refine w2 ?_ | refine w3 ?_ | refine w4 ?_ | refine w5 ?_ | refine w6 ?_ | refine w7 ?_ | refine yo0 ?_ ?_ | refine yw0 ?_ ?_ | exact qq | fail)
            rw [hw1]
            exact kloop_next (st' := ⟨[(2, vs s), (3, .ptr 0 0 0), (7, .ptr 2 0 0), (9, .ptr 4 0 0), (10, slP (0) 5), (26, .lsl 1 0 (k + 1)), (27, vi ((k + 1 : Nat) : Int)), (28, vi ((i + 1 : Nat) : Int))], [rA1 nm l, vRow c1 1 (k + 1) (lF 0 N), cG (.lsl 1 0 (k + 1)) (.vmap (cS L)), mRowB kI (lsM (out)), cM1 (.mref 3), vRow c1 1 (0) (lF 0 (out))]⟩) (N.length - (i + 1)) (can_rowsv [0, 1, 2, 3, 4, 5] (k0_sel hk rfl) rfl (.cons rfl (RowEq.cl (rA1_cl _ _)) (.cons rfl (RowEq.cl (v_cl c1_cl _ _ _)) (.cons rfl (cG_eq (PEq.refl _) (PEq.refl _)) (.cons rfl m_eqB (.cons rfl (cM1_eq (PEq.refl _)) (.cons rfl (RowEq.cl (v_cl c1_cl _ _ _)) .nil)))))) tmq) (by omega) ⟨i + 1, 0, out, by omega, by rw [hS], hm, rfl, rfl⟩
          | true =>
            rw [hme] at cm
            rw [hme, if_pos rfl] at hS
            repeat' (first | refine yo ?_ ?_ | refine yw ?_ ?_ | refine yk ?_ ?_ | exact trivial | with_reducible refine wA ?_ ?_ | refine ys ?_ ?_ | refine xs_done ?_ | refine yl ?_ ?_ | (rw [hz]; exact ⟨hx.1, hx.2.1⟩) | (rw [hz]; exact hx3) | refine z1 cm ?_ | refine z2 cm ?_ | refine z3 cm ?_ | refine z4 cm ?_ | refine z5 cm ?_ | refine w8 ?_ | refine w9 ?_ | refine w1 ?_ | refine w2 ?_ | refine w3 ?_ | refine w4 ?_ | refine w5 ?_ | refine w6 ?_ | refine w7 ?_ | refine yo0 ?_ ?_ | refine yw0 ?_ ?_ | exact qq | fail)
            rw [hz]
            refine pop_msetB (l := 3) mapIBd (lF 0 N i) 1 rfl rfl rfl rfl rfl rfl rfl (by rw [hk]; exact Nat.zero_le _) rfl rfl ?_
            rw [lsM_set hnot]
            repeat' (first | refine yo ?_ ?_ | refine yw ?_ ?_ | refine yk ?_ ?_ | exact trivial | with_reducible refine wA ?_ ?_ | refine ys ?_ ?_ | refine xs_done ?_ | refine yl ?_ ?_ | exact ⟨Nat.le_refl _, (by rw [hk]; exact Nat.le_of_ble_eq_true rfl), Nat.le_of_eq (Nat.zero_add _), (show (_ : Nat) * 8 ≤ 140737488355328 from by omega), (show (_ : Nat) ≤ 9223372036854775807 from by omega)⟩ | refine w8 ?_ | refine w9 ?_ | refine w1 ?_ | refine w2 ?_ | refine w3 ?_ | refine w4 ?_ | refine w5 ?_ | refine w6 ?_ | refine w7 ?_ | refine yo0 ?_ ?_ | refine yw0 ?_ ?_ | exact qq | fail)
            rw [hw1]
            exact kloop_next (st' := ⟨[(2, vs s), (3, .ptr 0 0 0), (7, .ptr 2 0 0), (9, .ptr 4 0 0), (10, slP (0 + 1) 5), (26, .lsl 1 0 (k + 1)), (27, vi ((k + 1 : Nat) : Int)), (28, vi ((i + 1 : Nat) : Int))], [rA1 nm l, vRow c1 1 (k + 1) (lF 0 N), cG (.lsl 1 0 (k + 1)) (.vmap (cS L)), mRowB kI (lsM (out ++ [lF 0 N i])), cM1 (.mref 3), vRow c1 1 (0 + 1) (lF 0 (out ++ [lF 0 N i]))]⟩) (N.length - (i + 1)) (can_rowsv [0, 1, 2, 3, 4, 7] (k0_sel hk rfl) rfl (.cons rfl (RowEq.cl (rA1_cl _ _)) (.cons rfl (RowEq.cl (v_cl c1_cl _ _ _)) (.cons rfl (cG_eq (PEq.refl _) (PEq.refl _)) (.cons rfl m_eqB (.cons rfl (cM1_eq (PEq.refl _)) (.cons rfl (app_l0 c1_cl hm rfl) .nil)))))) tmq) (by omega) ⟨i + 1, 0 + 1, out ++ [lF 0 N i], by omega, by rw [hS], by rw [List.length_append, hm]; rfl, rfl, rfl⟩
        · have hil : i = k + 1 := by have := of_decide_eq_false hc; omega
          subst hil
          rw [show N.take (k + 1) = N from by rw [← hk2]; exact List.take_length] at ho
          repeat' (first | refine yo ?_ ?_ | refine yw ?_ ?_ | refine yk ?_ ?_ | exact trivial | with_reducible refine wA ?_ ?_ | refine ys ?_ ?_ | refine xs_done ?_ | refine yl ?_ ?_ | refine w8 ?_ | refine w9 ?_ | refine w1 ?_ | refine w2 ?_ | refine w3 ?_ | refine w4 ?_ | refine w5 ?_ | refine w6 ?_ | refine w7 ?_ | refine yo0 ?_ ?_ | refine yw0 ?_ ?_ | exact qq | fail)
          refine pcan (st' := ⟨[(7, .ptr 2 0 0), (9, .ptr 4 0 0), (10, slP 0 5)], [rA1 nm l, vRow c1 1 (k + 1) (lF 0 N), cG (.lsl 1 0 (k + 1)) (.vmap (cS L)), mRowB kI (lsM (out)), cM1 (.mref 3), vRow c1 1 (0) (lF 0 (out))]⟩) (can_rowsv [0, 1, 2, 3, 4, 5] (k0_sel hk rfl) rfl (.cons rfl (RowEq.cl (rA1_cl _ _)) (.cons rfl (RowEq.cl (v_cl c1_cl _ _ _)) (.cons rfl (cG_eq (PEq.refl _) (PEq.refl _)) (.cons rfl m_eqB (.cons rfl (cM1_eq (PEq.refl _)) (.cons rfl (RowEq.cl (v_cl c1_cl _ _ _)) .nil)))))) tmq) ?_
          refine ploopN 1 ?_
          have ho0 : out = [] := List.length_eq_zero_iff.1 hm
          subst ho0
          repeat' (first | refine yo ?_ ?_ | refine yw ?_ ?_ | refine yk ?_ ?_ | exact trivial | with_reducible refine wA ?_ ?_ | refine ys ?_ ?_ | refine xs_done ?_ | refine yl ?_ ?_ | refine w8 ?_ | refine w9 ?_ | refine w1 ?_ | refine w2 ?_ | refine w3 ?_ | refine w4 ?_ | refine w5 ?_ | refine w6 ?_ | refine w7 ?_ | refine yo0 ?_ ?_ | refine yw0 ?_ ?_ | exact qq | fail)
          refine ocan0 (st' := ⟨[(82, .lsl 0 0 (k + 1)), (83, .clo 48 1 (nthP [cLis ([])]))], [iRow (k + 1) (lF 0 N)]⟩) (((can_vmap (one := false) (n := 0) (f := fun _ _ => .val (mVB kI (lsM ([])))) 3 (by rw [hk]; exact Nat.zero_le _) rfl trivial (tm := [(82, .lsl 1 0 (k + 1)), (83, .clo 48 1 (nthP [.ptr 4 0 0]))]) (rows := [rA1 nm l, vRow c1 1 (k + 1) (lF 0 N), cG (.lsl 1 0 (k + 1)) (.vmap (cS L)), deadR, cM1 (.vmap (.val (mVB kI (lsM ([]))))), vRow c1 1 (0) (lF 0 ([]))]) (by exact ⟨VM.refl, VM.refl, trivial⟩) (by exact ⟨.inl rfl, .inl rfl, .inl rfl, .inl rfl, .inr ⟨trivial, rfl, rfl, rfl, vm1⟩, .inl rfl, trivial⟩)).trans (can_frz [4] (by intro l hl; rw [hk]; exact Nat.zero_le _) rfl (tm := [(82, .lsl 1 0 (k + 1)), (83, .clo 48 1 (nthP [cLis ([])]))]) (by exact ⟨.inl rfl, .inr (argClo1 (argPtr (r := cM1 (.vmap (.val (mVB kI (lsM ([])))))) rfl trivial (List.Mem.head _) (Nat.le_refl _) rfl (fun a ha b hb => argCl trivial))), trivial⟩))).trans (can_rowsv [1] (k0_sel hk rfl) rfl (.cons rfl vi_row .nil) (by exact ⟨PEq.refl _, PEq.cl _ (reached_p ([])).cl, trivial⟩))) ?_
          refine pop_rowsc [0] rfl rfl rfl rfl rfl rfl (.cons rfl trivial (RowEq.cl (i_cl _ _)) .nil) (deleteFunc1_r (k + 1) N hk2 _ _ _ (reached_p ([])) (by omega)) (by exact ⟨PEq.refl _, PEq.cl _ (reached_p ([])).cl, trivial⟩) ?_
          rintro r rows ⟨rfl, rfl⟩
          refine ⟨_, _, rfl, ⟨i_cl _ _, trivial⟩, rfl, ?_⟩
          repeat' (first | refine yo ?_ ?_ | refine yw ?_ ?_ | refine yk ?_ ?_ | exact trivial | with_reducible refine wA ?_ ?_ | refine ys ?_ ?_ | refine xs_done ?_ | refine yl ?_ ?_ | refine w8 ?_ | refine w9 ?_ | refine w1 ?_ | refine w2 ?_ | refine w3 ?_ | refine w4 ?_ | refine w5 ?_ | refine w6 ?_ | refine w7 ?_ | refine yo0 ?_ ?_ | refine yw0 ?_ ?_ | exact qq | fail)
          refine xdone ?_
          rw [not_not_dec]
          generalize hM : (N.filter fun x => decide (x ∈ ([]))) = M
          refine kret [0] rfl ⟨trivial, trivial⟩ (qs := [sV M]) ⟨argLsl (r := iRow M.length (lF 0 M)) rfl trivial (List.Mem.head _) (by show 0 + M.length ≤ M.length; omega) (fun a ha b hb => ⟨by rw [Nat.zero_add]; rfl, trivial⟩), trivial⟩ ?_
          rw [← hM, hX, hD0 ho.symm]; rfl
      · --
        repeat' (first | refine yo ?_ ?_ | refine yw ?_ ?_ | refine yk ?_ ?_ | exact trivial | with_reducible refine wA ?_ ?_ | refine ys ?_ ?_ | refine xs_done ?_ | refine yl ?_ ?_ | refine w8 ?_ | refine w9 ?_ | refine w1 ?_ | refine w2 ?_ | refine w3 ?_ | refine w4 ?_ | refine w5 ?_ | refine w6 ?_ | refine w7 ?_ | refine yo0 ?_ ?_ | refine yw0 ?_ ?_ | exact qq | fail)
        refine pcond rfl ?_ ?_ <;> intro hc
        · have hc : i < k + 1 := by have := of_decide_eq_true hc; omega
          have hT : N.take (i + 1) = N.take i ++ [lF 0 N i] := by
            unfold lF
            rw [List.take_add_one, List.getD_eq_getElem?_getD, List.getElem?_eq_getElem (by omega)]; rfl
          have hxN : lF 0 N i ∈ N := by rw [lF_get' (by omega)]; exact List.getElem_mem (by omega)
          have hx := hNin _ hxN
          have hx3 : (lF 0 N i).toNat < l.length := by omega
          have hbo := h.body hvd hx3 hx.2.2
          have hz : 0 + ((i : Nat) : Int).toNat = i := by omega
          have cm := mentions_c (lF dD l (lF 0 N (0 + ((i : Nat) : Int).toNat)).toNat).body s (by rw [hz]; exact hbo.1) (by rw [hz]; exact hbo.2)
          rw [show mentS (lF dD l (lF 0 N (0 + ((i : Nat) : Int).toNat)).toNat).body s = mentS (lF dD l (lF 0 N i).toNat).body s by rw [hz]] at cm
          have hS := dn0_snoc (l := l) (s := s) (A := N.take i) (x := lF 0 N i)
          rw [← hT, ← ho] at hS
          have hnot : ¬ lF 0 N i ∈ out := fun hh => by
            rw [ho] at hh
            have h1 := (List.mem_filter.1 hh).1
            have h2 : (N.take i ++ [lF 0 N i]).Nodup := hT ▸ hNnd.sublist (List.take_sublist _ _)
            rw [List.nodup_append] at h2
            exact h2.2.2 _ h1 _ (List.mem_singleton.2 rfl) rfl
          cases hme : mentS (lF dD l (lF 0 N i).toNat).body s with
          | false =>
            rw [hme] at cm
            rw [hme, if_neg (by decide), List.append_nil] at hS
            repeat' (first | refine yo ?_ ?_ | refine yw ?_ ?_ | refine yk ?_ ?_ | exact trivial | with_reducible refine wA ?_ ?_ | refine ys ?_ ?_ | refine xs_done ?_ | refine yl ?_ ?_ | (rw [hz]; exact ⟨hx.1, hx.2.1⟩) | (rw [hz]; exact hx3) | refine z1 cm ?_ | refine z2 cm ?_ | refine z3 cm ?_ | refine z4 cm ?_ | refine z5 cm ?_ | refine w8 ?_ | refine w9 ?_ | refine w1 ?_ | refine w2 ?_ | refine w3 ?_ | refine w4 ?_ | refine w5 ?_ | refine w6 ?_ | refine w7 ?_ | refine yo0 ?_ ?_ | refine yw0 ?_ ?_ | exact qq | fail)
            rw [hw1]
            exact kloop_next (st' := ⟨[(2, vs s), (3, .ptr 0 0 0), (7, .ptr 2 0 0), (9, .ptr 4 0 0), (10, slP (m + 1) 5), (26, .lsl 1 0 (k + 1)), (27, vi ((k + 1 : Nat) : Int)), (28, vi ((i + 1 : Nat) : Int))], [rA1 nm l, vRow c1 1 (k + 1) (lF 0 N), cG (.lsl 1 0 (k + 1)) (.vmap (cS L)), mRowB kI (lsM (out)), cM1 (.mref 3), vRow c1 1 (m + 1) (lF 0 (out))]⟩) (N.length - (i + 1)) (can_rowsv [0, 1, 2, 3, 4, 5] (k0_sel hk rfl) rfl (.cons rfl (RowEq.cl (rA1_cl _ _)) (.cons rfl (RowEq.cl (v_cl c1_cl _ _ _)) (.cons rfl (cG_eq (PEq.refl _) (PEq.refl _)) (.cons rfl m_eqB (.cons rfl (cM1_eq (PEq.refl _)) (.cons rfl (RowEq.cl (v_cl c1_cl _ _ _)) .nil)))))) tmq) (by omega) ⟨i + 1, m + 1, out, by omega, by rw [hS], hm, rfl, rfl⟩
          | true =>
            rw [hme] at cm
            rw [hme, if_pos rfl] at hS
            repeat' (first | refine yo ?_ ?_ | refine yw ?_ ?_ | refine yk ?_ ?_ | exact trivial | with_reducible refine wA ?_ ?_ | refine ys ?_ ?_ | refine xs_done ?_ | refine yl ?_ ?_ | (rw [hz]; exact ⟨hx.1, hx.2.1⟩) | (rw [hz]; exact hx3) | refine z1 cm ?_ | refine z2 cm ?_ | refine z3 cm ?_ | refine z4 cm ?_ | refine z5 cm ?_ | refine w8 ?_ | refine w9 ?_ | refine w1 ?_ | refine w2 ?_ | refine w3 ?_ | refine w4 ?_ | refine w5 ?_ | refine w6 ?_ | refine w7 ?_ | refine yo0 ?_ ?_ | refine yw0 ?_ ?_ | exact qq | fail)
            rw [hz]
            refine pop_msetB (l := 3) mapIBd (lF 0 N i) 1 rfl rfl rfl rfl rfl rfl rfl (by rw [hk]; exact Nat.zero_le _) rfl rfl ?_
            rw [lsM_set hnot]
            repeat' (first | refine yo ?_ ?_ | refine yw ?_ ?_ | refine yk ?_ ?_ | exact trivial | with_reducible refine wA ?_ ?_ | refine ys ?_ ?_ | refine xs_done ?_ | refine yl ?_ ?_ | exact ⟨Nat.le_refl _, (by rw [hk]; exact Nat.le_of_ble_eq_true rfl), Nat.le_of_eq (Nat.zero_add _), (show (_ : Nat) * 8 ≤ 140737488355328 from by omega), (show (_ : Nat) ≤ 9223372036854775807 from by omega)⟩ | refine w8 ?_ | refine w9 ?_ | refine w1 ?_ | refine w2 ?_ | refine w3 ?_ | refine w4 ?_ | refine w5 ?_ | refine w6 ?_ | refine w7 ?_ | refine yo0 ?_ ?_ | refine yw0 ?_ ?_ | exact qq | fail)
            rw [hw1]
            exact kloop_next (st' := ⟨[(2, vs s), (3, .ptr 0 0 0), (7, .ptr 2 0 0), (9, .ptr 4 0 0), (10, slP (m + 1 + 1) 5), (26, .lsl 1 0 (k + 1)), (27, vi ((k + 1 : Nat) : Int)), (28, vi ((i + 1 : Nat) : Int))], [rA1 nm l, vRow c1 1 (k + 1) (lF 0 N), cG (.lsl 1 0 (k + 1)) (.vmap (cS L)), mRowB kI (lsM (out ++ [lF 0 N i])), cM1 (.mref 3), vRow c1 1 (m + 1 + 1) (lF 0 (out ++ [lF 0 N i]))]⟩) (N.length - (i + 1)) (can_rowsv [0, 1, 2, 3, 4, 7] (k0_sel hk rfl) rfl (.cons rfl (RowEq.cl (rA1_cl _ _)) (.cons rfl (RowEq.cl (v_cl c1_cl _ _ _)) (.cons rfl (cG_eq (PEq.refl _) (PEq.refl _)) (.cons rfl m_eqB (.cons rfl (cM1_eq (PEq.refl _)) (.cons rfl (app_l c1_cl hm rfl rfl) .nil)))))) tmq) (by omega) ⟨i + 1, m + 1 + 1, out ++ [lF 0 N i], by omega, by rw [hS], by rw [List.length_append, hm]; rfl, rfl, rfl⟩
        · have hil : i = k + 1 := by have := of_decide_eq_false hc; omega
          subst hil
          rw [show N.take (k + 1) = N from by rw [← hk2]; exact List.take_length] at ho
          repeat' (first | refine yo ?_ ?_ | refine yw ?_ ?_ | refine yk ?_ ?_ | exact trivial | with_reducible refine wA ?_ ?_ | refine ys ?_ ?_ | refine xs_done ?_ | refine yl ?_ ?_ | refine w8 ?_ | refine w9 ?_ | refine w1 ?_ | refine w2 ?_ | refine w3 ?_ | refine w4 ?_ | refine w5 ?_ | refine w6 ?_ | refine w7 ?_ | refine yo0 ?_ ?_ | refine yw0 ?_ ?_ | exact qq | fail)
          refine pcan (st' := ⟨[(7, .ptr 2 0 0), (9, .ptr 4 0 0), (10, .lsl 5 0 (m + 1))], [rA1 nm l, vRow c1 1 (k + 1) (lF 0 N), cG (.lsl 1 0 (k + 1)) (.vmap (cS L)), mRowB kI (lsM (out)), cM1 (.mref 3), iRow (m + 1) (lF 0 out)]⟩) (can_rowsv [0, 1, 2, 3, 4, 5] (k0_sel hk rfl) rfl (.cons rfl (RowEq.cl (rA1_cl _ _)) (.cons rfl (RowEq.cl (v_cl c1_cl _ _ _)) (.cons rfl (cG_eq (PEq.refl _) (PEq.refl _)) (.cons rfl m_eqB (.cons rfl (cM1_eq (PEq.refl _)) (.cons rfl (vi_row) .nil)))))) tmq) ?_
          have hI0 : InvN N out := ⟨by rw [ho]; exact hNnd.filter _, fun x hx => by rw [ho] at hx; exact (List.mem_filter.1 hx).1⟩
          have hD0' : dnS l day s = dnF N L (N.length + 1) 0 out := by rw [ho, ← hN, ← hL]; rfl
          clear hD0
          refine ploop (fun q st => ∃ (p o M n : Nat) (g : Nat → Int) (out : List Int), InvN N out ∧ p ≤ out.length ∧ dnS l day s = dnF N L (N.length + 1 - p) p out ∧ out.length = p + n ∧ o + n ≤ M ∧ (∀ a, a < n → g (o + a) = lF 0 (out.drop p) a) ∧ q = N.length - p ∧ st = ⟨[(7, .ptr 2 0 0), (9, .ptr 4 0 0), (10, .lsl 5 o n)], [rA1 nm l, vRow c1 1 (k + 1) (lF 0 N), cG (.lsl 1 0 (k + 1)) (.vmap (cS L)), mRowB kI (lsM (out)), cM1 (.mref 3), iRow M g]⟩) N.length ⟨0, 0, m + 1, m + 1, lF 0 out, out, hI0, Nat.zero_le _, hD0', by omega, by omega, fun a ha => by rw [Nat.zero_add, List.drop_zero], rfl, rfl⟩ ?_
          clear hI0 hD0' ho hm
          rintro _ _ ⟨p, o, M, n, g, out, hI, hpl, hD, hP, hM, hg, rfl, rfl⟩
          have hIl := hI.len
          repeat' (first | refine yo ?_ ?_ | refine yw ?_ ?_ | refine yk ?_ ?_ | exact trivial | with_reducible refine wA ?_ ?_ | refine ys ?_ ?_ | refine xs_done ?_ | refine yl ?_ ?_ | refine w8 ?_ | refine w9 ?_ | refine w1 ?_ | refine w2 ?_ | refine w3 ?_ | refine w4 ?_ | refine w5 ?_ | refine w6 ?_ | refine w7 ?_ | refine yo0 ?_ ?_ | refine yw0 ?_ ?_ | exact qq | fail)
          refine pcond rfl ?_ ?_ <;> intro hc
          · have hc : 0 < n := by have := of_decide_eq_true hc; omega
            obtain ⟨n, rfl⟩ : ∃ n', n = n' + 1 := ⟨n - 1, by omega⟩
            have hg0 : g o = lF 0 out p := by
              have := hg 0 (by omega)
              rw [Nat.add_zero] at this
              rw [this]; unfold lF; rw [List.getD_eq_getElem?_getD, List.getD_eq_getElem?_getD, List.getElem?_drop, Nat.add_zero]
            obtain ⟨nx, hnx⟩ : ∃ nx, lF 0 out p = nx := ⟨_, rfl⟩
            repeat' (first | refine yo ?_ ?_ | refine yw ?_ ?_ | refine yk ?_ ?_ | exact trivial | with_reducible refine wA ?_ ?_ | refine ys ?_ ?_ | refine xs_done ?_ | refine yl ?_ ?_ | (show o + 0 < M; omega) | exact ⟨by decide, by omega⟩ | exact ⟨trivial, trivial, by decide, by omega, Int.le_refl _⟩ | refine w8 ?_ | refine w9 ?_ | refine w1 ?_ | refine w2 ?_ | refine w3 ?_ | refine w4 ?_ | refine w5 ?_ | refine w6 ?_ | refine w7 ?_ | refine yo0 ?_ ?_ | refine yw0 ?_ ?_ | exact qq | fail)
            refine pcan (can_rowsv [0, 1, 2, 3, 4, 5] (tm := [(7, .ptr 2 0 0), (9, .ptr 4 0 0), (10, .lsl 5 (o + 1) (n)), (13, vi nx), (56, .lsl 1 0 (k + 1)), (57, vi ((k + 1 : Nat) : Int)), (58, vi ((0 : Nat) : Int))]) (rows := [rA1 nm l, vRow c1 1 (k + 1) (lF 0 N), cG (.lsl 1 0 (k + 1)) (.vmap (cS L)), mRowB kI (lsM (out)), cM1 (.mref 3), iRow M g]) (k0_sel hk rfl) rfl (.cons rfl (RowEq.cl (rA1_cl _ _)) (.cons rfl (RowEq.cl (v_cl c1_cl _ _ _)) (.cons rfl (cG_eq (PEq.refl _) (PEq.refl _)) (.cons rfl m_eqB (.cons rfl (cM1_eq (PEq.refl _)) (.cons rfl (RowEq.cl (i_cl _ _)) .nil)))))) (by exact ⟨PEq.refl _, PEq.refl _, PEq.of (by show PV.lsl 5 (o + 1) _ = _; congr 1; omega), PEq.of (by show vi (g (o + 0)) = vi nx; rw [Nat.add_zero, hg0, hnx]), PEq.refl _, PEq.refl _, PEq.refl _, trivial⟩)) ?_
            refine ploop (fun q st => ∃ (i p2 k2 M2 : Nat) (g2 : Nat → Int) (o2 : List Int), i ≤ N.length ∧ o2 = dnIn L nx out (N.take i) ∧ o2.length = p + 1 + k2 ∧ p2 + k2 ≤ M2 ∧ (∀ a, a < k2 → g2 (p2 + a) = lF 0 (o2.drop (p + 1)) a) ∧ q = N.length - i ∧ st = ⟨[(7, .ptr 2 0 0), (9, .ptr 4 0 0), (10, .lsl 5 (p2) (k2)), (13, vi nx), (56, .lsl 1 0 (k + 1)), (57, vi ((k + 1 : Nat) : Int)), (58, vi i)], [rA1 nm l, vRow c1 1 (k + 1) (lF 0 N), cG (.lsl 1 0 (k + 1)) (.vmap (cS L)), mRowB kI (lsM (o2)), cM1 (.mref 3), iRow M2 g2]⟩) N.length ⟨0, o + 1, n, M, g, out, Nat.zero_le _, by rw [List.take_zero]; rfl, by omega, by omega, fun a ha => by
              rw [show o + 1 + a = o + (a + 1) by omega, hg (a + 1) (by omega)]
              unfold lF
              rw [List.getD_eq_getElem?_getD, List.getD_eq_getElem?_getD, List.getElem?_drop, List.getElem?_drop, show p + (a + 1) = p + 1 + a by omega], rfl, rfl⟩ ?_
            rintro _ _ ⟨i, p2, k2, M2, g2, o2, hi, hs, hP2, hM2, hg2, rfl, rfl⟩
            have hw1 : IntKind.i64.wrap ((i : Int) + 1) = ((i + 1 : Nat) : Int) := w64 (by omega) (by omega)
            have hJ : InvN N o2 := hs ▸ InvN.fold (N.take i) out hI (fun x hx => List.mem_of_mem_take hx)
            have hJl2 := hJ.len
            have hQ2 : (o2.drop (p + 1)).length = k2 := by rw [List.length_drop]; omega
            repeat' (first | refine yo ?_ ?_ | refine yw ?_ ?_ | refine yk ?_ ?_ | exact trivial | with_reducible refine wA ?_ ?_ | refine ys ?_ ?_ | refine xs_done ?_ | refine yl ?_ ?_ | refine w8 ?_ | refine w9 ?_ | refine w1 ?_ | refine w2 ?_ | refine w3 ?_ | refine w4 ?_ | refine w5 ?_ | refine w6 ?_ | refine w7 ?_ | refine yo0 ?_ ?_ | refine yw0 ?_ ?_ | exact qq | fail)
            refine pcond rfl ?_ ?_ <;> intro hc2
            · have hc2 : i < k + 1 := by have := of_decide_eq_true hc2; omega
              have hT : N.take (i + 1) = N.take i ++ [lF 0 N i] := by
                unfold lF
                rw [List.take_add_one, List.getD_eq_getElem?_getD, List.getElem?_eq_getElem (by omega)]; rfl
              have hxN : lF 0 N i ∈ N := by rw [lF_get' (by omega)]; exact List.getElem_mem (by omega)
              have hS : dnIn L nx out (N.take (i + 1)) = dnStep L nx o2 (lF 0 N i) := by rw [hT, dnIn_snoc, ← hs]
              have cn := contains_c (sget L (lF 0 N i)) nx (Nat.le_trans (sget_len (N := N) hLb _) (by decide))
              have hz : 0 + ((i : Nat) : Int).toNat = i := by omega
              repeat' (first | refine yo ?_ ?_ | refine yw ?_ ?_ | refine yk ?_ ?_ | exact trivial | with_reducible refine wA ?_ ?_ | refine ys ?_ ?_ | refine xs_done ?_ | refine yl ?_ ?_ | refine w8 ?_ | refine w9 ?_ | refine w1 ?_ | refine w2 ?_ | refine w3 ?_ | refine w4 ?_ | refine w5 ?_ | refine w6 ?_ | refine w7 ?_ | refine yo0 ?_ ?_ | refine yw0 ?_ ?_ | exact qq | fail)
              rw [hz]
              refine pop_lookB mapIBd false (lF 0 N i) rfl rfl rfl rfl rfl rfl rfl ?_
              rw [show (bif false then PV.tup 2 (nthP [.val (bV ((mget (lsM o2) (lF 0 N i)).getD 0)), vb (mget (lsM o2) (lF 0 N i)).isSome]) else .val (bV ((mget (lsM o2) (lF 0 N i)).getD 0))) = vb (decide (lF 0 N i ∈ o2)) from lsM_b o2 (lF 0 N i)]
              by_cases hin : lF 0 N i ∈ o2
              · have hS2 : dnStep L nx o2 (lF 0 N i) = o2 := by unfold dnStep; rw [if_neg (fun hh => hh.1 hin)]
                rw [decide_eq_true hin]
                repeat' (first | refine yo ?_ ?_ | refine yw ?_ ?_ | refine yk ?_ ?_ | exact trivial | with_reducible refine wA ?_ ?_ | refine ys ?_ ?_ | refine xs_done ?_ | refine yl ?_ ?_ | (refine pop_gfalse rfl rfl rfl rfl ?_) | exact (fun hh => by cases hh) | refine w8 ?_ | refine w9 ?_ | refine w1 ?_ | refine w2 ?_ | refine w3 ?_ | refine w4 ?_ | refine w5 ?_ | refine w6 ?_ | refine w7 ?_ | refine yo0 ?_ ?_ | refine yw0 ?_ ?_ | exact qq | fail)
                rw [hw1]
                exact kloop_next (st' := ⟨[(7, .ptr 2 0 0), (9, .ptr 4 0 0), (10, .lsl 5 (p2) (k2)), (13, vi nx), (56, .lsl 1 0 (k + 1)), (57, vi ((k + 1 : Nat) : Int)), (58, vi ((i + 1 : Nat) : Int))], [rA1 nm l, vRow c1 1 (k + 1) (lF 0 N), cG (.lsl 1 0 (k + 1)) (.vmap (cS L)), mRowB kI (lsM (o2)), cM1 (.mref 3), iRow (M2) g2]⟩) (N.length - (i + 1)) (can_rowsv [0, 1, 2, 3, 4, 5] (k0_sel hk rfl) rfl (.cons rfl (RowEq.cl (rA1_cl _ _)) (.cons rfl (RowEq.cl (v_cl c1_cl _ _ _)) (.cons rfl (cG_eq (PEq.refl _) (PEq.refl _)) (.cons rfl m_eqB (.cons rfl (cM1_eq (PEq.refl _)) (.cons rfl (RowEq.cl (i_cl _ _)) .nil)))))) tmq) (by omega) ⟨i + 1, p2, k2, M2, g2, o2, by omega, by rw [hS, hS2], hP2, hM2, hg2, rfl, rfl⟩
              · rw [decide_eq_false hin]
                by_cases hx : nx ∈ sget L (lF 0 N i)
                · rw [decide_eq_true hx] at cn
                  have hS2 : dnStep L nx o2 (lF 0 N i) = o2 ++ [lF 0 N i] := by unfold dnStep; rw [if_pos ⟨hin, hx⟩]
                  repeat' (first | refine yo ?_ ?_ | refine yw ?_ ?_ | refine yk ?_ ?_ | exact trivial | with_reducible refine wA ?_ ?_ | refine ys ?_ ?_ | refine xs_done ?_ | refine yl ?_ ?_ | refine w8 ?_ | refine w9 ?_ | refine w1 ?_ | refine w2 ?_ | refine w3 ?_ | refine w4 ?_ | refine w5 ?_ | refine w6 ?_ | refine w7 ?_ | refine yo0 ?_ ?_ | refine yw0 ?_ ?_ | exact qq | fail)
                  refine pop_opt 68 rfl rfl ?_
                  refine pop_opt 69 rfl rfl ?_
                  refine pop_unguard rfl rfl ?_
                  refine pop_lookvS mapIS (lF 0 N i) rfl rfl rfl rfl rfl rfl ?_
                  repeat' (first | refine yo ?_ ?_ | refine yw ?_ ?_ | refine yk ?_ ?_ | exact trivial | with_reducible refine wA ?_ ?_ | refine ys ?_ ?_ | refine xs_done ?_ | refine yl ?_ ?_ | (refine pop_unguard rfl rfl ?_) | refine w8 ?_ | refine w9 ?_ | refine w1 ?_ | refine w2 ?_ | refine w3 ?_ | refine w4 ?_ | refine w5 ?_ | refine w6 ?_ | refine w7 ?_ | refine yo0 ?_ ?_ | refine yw0 ?_ ?_ | exact qq | fail)
                  refine pop_opt 71 rfl rfl ?_
                  repeat' (first | refine yo ?_ ?_ | refine yw ?_ ?_ | refine yk ?_ ?_ | exact trivial | with_reducible refine wA ?_ ?_ | refine ys ?_ ?_ | refine xs_done ?_ | refine yl ?_ ?_ | refine z1 cn ?_ | refine z2 cn ?_ | refine z3 cn ?_ | refine z4 cn ?_ | refine z5 cn ?_ | refine w8 ?_ | refine w9 ?_ | refine w1 ?_ | refine w2 ?_ | refine w3 ?_ | refine w4 ?_ | refine w5 ?_ | refine w6 ?_ | refine w7 ?_ | refine yo0 ?_ ?_ | refine yw0 ?_ ?_ | exact qq | fail)
                  refine pop_msetB (l := 3) mapIBd (lF 0 N i) 1 rfl rfl rfl rfl rfl rfl rfl (by rw [hk]; exact Nat.zero_le _) rfl rfl ?_
                  rw [lsM_set hin]
                  have hkb : k2 ≤ 1000000 := by omega
                  repeat' (first | refine yo ?_ ?_ | refine yw ?_ ?_ | refine yk ?_ ?_ | exact trivial | with_reducible refine wA ?_ ?_ | refine ys ?_ ?_ | refine xs_done ?_ | refine yl ?_ ?_ | exact ⟨Nat.le_refl _, (by rw [hk]; exact Nat.le_of_ble_eq_true rfl), hM2, (show (_ : Nat) * 8 ≤ 140737488355328 from by omega), (show (_ : Nat) ≤ 9223372036854775807 from by omega)⟩ | refine w8 ?_ | refine w9 ?_ | refine w1 ?_ | refine w2 ?_ | refine w3 ?_ | refine w4 ?_ | refine w5 ?_ | refine w6 ?_ | refine w7 ?_ | refine yo0 ?_ ?_ | refine yw0 ?_ ?_ | exact qq | fail)
                  rw [hw1]
                  exact kloop_next (st' := ⟨[(7, .ptr 2 0 0), (9, .ptr 4 0 0), (10, .lsl 5 (0) (k2 + 1)), (13, vi nx), (56, .lsl 1 0 (k + 1)), (57, vi ((k + 1 : Nat) : Int)), (58, vi ((i + 1 : Nat) : Int))], [rA1 nm l, vRow c1 1 (k + 1) (lF 0 N), cG (.lsl 1 0 (k + 1)) (.vmap (cS L)), mRowB kI (lsM (o2 ++ [lF 0 N i])), cM1 (.mref 3), iRow (k2 + 1) (lF 0 (o2.drop (p + 1) ++ [lF 0 N i]))]⟩) (N.length - (i + 1)) (can_rowsv [0, 1, 2, 3, 4, 7] (k0_sel hk rfl) rfl (.cons rfl (RowEq.cl (rA1_cl _ _)) (.cons rfl (RowEq.cl (v_cl c1_cl _ _ _)) (.cons rfl (cG_eq (PEq.refl _) (PEq.refl _)) (.cons rfl m_eqB (.cons rfl (cM1_eq (PEq.refl _)) (.cons rfl (app_q hQ2 hg2) .nil)))))) tmq) (by omega) ⟨i + 1, 0, k2 + 1, k2 + 1, lF 0 (o2.drop (p + 1) ++ [lF 0 N i]), o2 ++ [lF 0 N i], by omega, by rw [hS, hS2], by rw [List.length_append, hP2]; rfl, by omega, fun a ha => by rw [Nat.zero_add, List.drop_append_of_le_length (by omega)], rfl, rfl⟩
                · rw [decide_eq_false hx] at cn
                  have hS2 : dnStep L nx o2 (lF 0 N i) = o2 := by unfold dnStep; rw [if_neg (fun hh => hx hh.2)]
                  repeat' (first | refine yo ?_ ?_ | refine yw ?_ ?_ | refine yk ?_ ?_ | exact trivial | with_reducible refine wA ?_ ?_ | refine ys ?_ ?_ | refine xs_done ?_ | refine yl ?_ ?_ | refine w8 ?_ | refine w9 ?_ | refine w1 ?_ | refine w2 ?_ | refine w3 ?_ | refine w4 ?_ | refine w5 ?_ | refine w6 ?_ | refine w7 ?_ | refine yo0 ?_ ?_ | refine yw0 ?_ ?_ | exact qq | fail)
                  refine pop_opt 68 rfl rfl ?_
                  refine pop_opt 69 rfl rfl ?_
                  refine pop_unguard rfl rfl ?_
                  refine pop_lookvS mapIS (lF 0 N i) rfl rfl rfl rfl rfl rfl ?_
                  repeat' (first | refine yo ?_ ?_ | refine yw ?_ ?_ | refine yk ?_ ?_ | exact trivial | with_reducible refine wA ?_ ?_ | refine ys ?_ ?_ | refine xs_done ?_ | refine yl ?_ ?_ | (refine pop_unguard rfl rfl ?_) | refine w8 ?_ | refine w9 ?_ | refine w1 ?_ | refine w2 ?_ | refine w3 ?_ | refine w4 ?_ | refine w5 ?_ | refine w6 ?_ | refine w7 ?_ | refine yo0 ?_ ?_ | refine yw0 ?_ ?_ | exact qq | fail)
                  refine pop_opt 71 rfl rfl ?_
                  repeat' (first | refine yo ?_ ?_ | refine yw ?_ ?_ | refine yk ?_ ?_ | exact trivial | with_reducible refine wA ?_ ?_ | refine ys ?_ ?_ | refine xs_done ?_ | refine yl ?_ ?_ | refine z1 cn ?_ | refine z2 cn ?_ | refine z3 cn ?_ | refine z4 cn ?_ | refine z5 cn ?_ | refine w8 ?_ | refine w9 ?_ | refine w1 ?_ | refine w2 ?_ | refine w3 ?_ | refine w4 ?_ | refine w5 ?_ | refine w6 ?_ | refine w7 ?_ | refine yo0 ?_ ?_ | refine yw0 ?_ ?_ | exact qq | fail)
                  rw [hw1]
                  exact kloop_next (st' := ⟨[(7, .ptr 2 0 0), (9, .ptr 4 0 0), (10, .lsl 5 (p2) (k2)), (13, vi nx), (56, .lsl 1 0 (k + 1)), (57, vi ((k + 1 : Nat) : Int)), (58, vi ((i + 1 : Nat) : Int))], [rA1 nm l, vRow c1 1 (k + 1) (lF 0 N), cG (.lsl 1 0 (k + 1)) (.vmap (cS L)), mRowB kI (lsM (o2)), cM1 (.mref 3), iRow (M2) g2]⟩) (N.length - (i + 1)) (can_rowsv [0, 1, 2, 3, 4, 5] (k0_sel hk rfl) rfl (.cons rfl (RowEq.cl (rA1_cl _ _)) (.cons rfl (RowEq.cl (v_cl c1_cl _ _ _)) (.cons rfl (cG_eq (PEq.refl _) (PEq.refl _)) (.cons rfl m_eqB (.cons rfl (cM1_eq (PEq.refl _)) (.cons rfl (RowEq.cl (i_cl _ _)) .nil)))))) tmq) (by omega) ⟨i + 1, p2, k2, M2, g2, o2, by omega, by rw [hS, hS2], hP2, hM2, hg2, rfl, rfl⟩
            · have hil : i = k + 1 := by have := of_decide_eq_false hc2; omega
              subst hil
              rw [show N.take (k + 1) = N from by rw [← hk2]; exact List.take_length] at hs
              have hJl := hJ.len
              repeat' (first | refine yo ?_ ?_ | refine yw ?_ ?_ | refine yk ?_ ?_ | exact trivial | with_reducible refine wA ?_ ?_ | refine ys ?_ ?_ | refine xs_done ?_ | refine yl ?_ ?_ | refine w8 ?_ | refine w9 ?_ | refine w1 ?_ | refine w2 ?_ | refine w3 ?_ | refine w4 ?_ | refine w5 ?_ | refine w6 ?_ | refine w7 ?_ | refine yo0 ?_ ?_ | refine yw0 ?_ ?_ | exact qq | fail)
              exact kloop_next (st' := ⟨[(7, .ptr 2 0 0), (9, .ptr 4 0 0), (10, .lsl 5 p2 k2)], [rA1 nm l, vRow c1 1 (k + 1) (lF 0 N), cG (.lsl 1 0 (k + 1)) (.vmap (cS L)), mRowB kI (lsM (o2)), cM1 (.mref 3), iRow M2 g2]⟩) (N.length - (p + 1)) (can_rowsv [0, 1, 2, 3, 4, 5] (k0_sel hk rfl) rfl (.cons rfl (RowEq.cl (rA1_cl _ _)) (.cons rfl (RowEq.cl (v_cl c1_cl _ _ _)) (.cons rfl (cG_eq (PEq.refl _) (PEq.refl _)) (.cons rfl m_eqB (.cons rfl (cM1_eq (PEq.refl _)) (.cons rfl (RowEq.cl (i_cl _ _)) .nil)))))) tmq) (by omega) ⟨p + 1, p2, M2, k2, g2, o2, hJ, by omega, by
                rw [hD, show N.length + 1 - p = N.length + 1 - (p + 1) + 1 by omega, dnF, if_pos (by omega), hnx, ← hs], by omega, hM2, hg2, rfl, rfl⟩
          · have hn0 : n = 0 := by have := of_decide_eq_false hc; omega
            subst hn0
            have hfin : dnS l day s = out := by
              rw [hD]
              cases hf : N.length + 1 - p with
              | zero => rfl
              | succ f => rw [dnF, if_neg (by omega)]
            repeat' (first | refine yo ?_ ?_ | refine yw ?_ ?_ | refine yk ?_ ?_ | exact trivial | with_reducible refine wA ?_ ?_ | refine ys ?_ ?_ | refine xs_done ?_ | refine yl ?_ ?_ | refine w8 ?_ | refine w9 ?_ | refine w1 ?_ | refine w2 ?_ | refine w3 ?_ | refine w4 ?_ | refine w5 ?_ | refine w6 ?_ | refine w7 ?_ | refine yo0 ?_ ?_ | refine yw0 ?_ ?_ | exact qq | fail)
            refine ocan0 (st' := ⟨[(82, .lsl 0 0 (k + 1)), (83, .clo 48 1 (nthP [cLis (out)]))], [iRow (k + 1) (lF 0 N)]⟩) (((can_vmap (one := false) (n := 0) (f := fun _ _ => .val (mVB kI (lsM (out)))) 3 (by rw [hk]; exact Nat.zero_le _) rfl trivial (tm := [(82, .lsl 1 0 (k + 1)), (83, .clo 48 1 (nthP [.ptr 4 0 0]))]) (rows := [rA1 nm l, vRow c1 1 (k + 1) (lF 0 N), cG (.lsl 1 0 (k + 1)) (.vmap (cS L)), deadR, cM1 (.vmap (.val (mVB kI (lsM (out))))), iRow M g]) (by exact ⟨VM.refl, VM.refl, trivial⟩) (by exact ⟨.inl rfl, .inl rfl, .inl rfl, .inl rfl, .inr ⟨trivial, rfl, rfl, rfl, vm1⟩, .inl rfl, trivial⟩)).trans (can_frz [4] (by intro l hl; rw [hk]; exact Nat.zero_le _) rfl (tm := [(82, .lsl 1 0 (k + 1)), (83, .clo 48 1 (nthP [cLis (out)]))]) (by exact ⟨.inl rfl, .inr (argClo1 (argPtr (r := cM1 (.vmap (.val (mVB kI (lsM (out)))))) rfl trivial (List.Mem.head _) (Nat.le_refl _) rfl (fun a ha b hb => argCl trivial))), trivial⟩))).trans (can_rowsv [1] (k0_sel hk rfl) rfl (.cons rfl vi_row .nil) (by exact ⟨PEq.refl _, PEq.cl _ (reached_p (out)).cl, trivial⟩))) ?_
            refine pop_rowsc [0] rfl rfl rfl rfl rfl rfl (.cons rfl trivial (RowEq.cl (i_cl _ _)) .nil) (deleteFunc1_r (k + 1) N hk2 _ _ _ (reached_p (out)) (by omega)) (by exact ⟨PEq.refl _, PEq.cl _ (reached_p (out)).cl, trivial⟩) ?_
            rintro r rows ⟨rfl, rfl⟩
            refine ⟨_, _, rfl, ⟨i_cl _ _, trivial⟩, rfl, ?_⟩
            repeat' (first | refine yo ?_ ?_ | refine yw ?_ ?_ | refine yk ?_ ?_ | exact trivial | with_reducible refine wA ?_ ?_ | refine ys ?_ ?_ | refine xs_done ?_ | refine yl ?_ ?_ | refine w8 ?_ | refine w9 ?_ | refine w1 ?_ | refine w2 ?_ | refine w3 ?_ | refine w4 ?_ | refine w5 ?_ | refine w6 ?_ | refine w7 ?_ | refine yo0 ?_ ?_ | refine yw0 ?_ ?_ | exact qq | fail)
            refine xdone ?_
            rw [not_not_dec]
            generalize hM : (N.filter fun x => decide (x ∈ (out))) = M
            refine kret [0] rfl ⟨trivial, trivial⟩ (qs := [sV M]) ⟨argLsl (r := iRow M.length (lF 0 M)) rfl trivial (List.Mem.head _) (by show 0 + M.length ≤ M.length; omega) (fun a ha b hb => ⟨by rw [Nat.zero_add]; rfl, trivial⟩), trivial⟩ ?_
            rw [← hM, hX, hfin]; rfl
  · have cg := newGraph_c1 nm l day h (by omega) he
    refine pure_of (G := G.toPg) (fn := Try.f29) Try.func29 rfl rfl rfl ?_; intro Γ hk
    repeat' (first | refine yo ?_ ?_ | refine yw ?_ ?_ | refine yk ?_ ?_ | exact trivial | with_reducible refine wA ?_ ?_ | refine ys ?_ ?_ | refine xs_done ?_ | refine yl ?_ ?_ | (refine pop_callc [] rfl rfl rfl rfl rfl rfl (fun _ h => by cases h) (cg) (args_cl _ rfl) ?_; rintro _ rfl) | refine w8 ?_ | refine w9 ?_ | refine w1 ?_ | refine w2 ?_ | refine w3 ?_ | refine w4 ?_ | refine w5 ?_ | refine w6 ?_ | refine w7 ?_ | refine yo0 ?_ ?_ | refine yw0 ?_ ?_ | exact qq | fail)
    refine pcond (b := true) (eqB (by simpa using he)) ?_ ?_ <;> intro h1
    · repeat' (first | refine yo ?_ ?_ | refine yw ?_ ?_ | refine yk ?_ ?_ | exact trivial | with_reducible refine wA ?_ ?_ | refine ys ?_ ?_ | refine xs_done ?_ | refine yl ?_ ?_ | refine w8 ?_ | refine w9 ?_ | refine w1 ?_ | refine w2 ?_ | refine w3 ?_ | refine w4 ?_ | refine w5 ?_ | refine w6 ?_ | refine w7 ?_ | refine yo0 ?_ ?_ | refine yw0 ?_ ?_ | exact qq | fail)
      refine kret [] rfl ⟨trivial, trivial⟩ (qs := [.vsl 0 1 (tI (lF 0 []))]) ⟨argNil, trivial⟩ ?_
      unfold DwnS; rw [if_pos he]; rfl
    · cases h1
end Go.Proofs.Ytcefhgomkehokaa
namespace Go.Proofs.Ytcefhgomkehokaa
abbrev dE : En := (0, 0, 0)
structure EnOk (E : List En) (key : Int) : Prop where
  asc : E.Pairwise (fun a b => a.1 < b.1)
  all : ∀ e, e ∈ E → 0 ≤ e.1 ∧ e.1 < key ∧ e.2 ∈ decL
theorem EnOk.snoc {E : List En} {key : Int} (h : EnOk E key) (h0 : 0 ≤ key) {x : Int × Int} (hx : x ∈ decL) {k' : Int} (hk : key < k') : EnOk (E ++ [(key, x)]) k' := by
  refine ⟨List.pairwise_append.2 ⟨h.asc, by simp, fun a ha b hb => ?_⟩, fun e he => ?_⟩
  · obtain rfl : b = (key, x) := by simpa using hb
    exact (h.all a ha).2.1
  · rcases List.mem_append.1 he with he | he
    · have := h.all e he; exact ⟨this.1, by omega, this.2.2⟩
    · obtain rfl : e = (key, x) := by simpa using he
      exact ⟨h0, hk, hx⟩
theorem dec_ok : ∀ x ∈ decL, -9223372036854775808 ≤ x.1 ∧ x.1 ≤ 9223372036854775807 ∧ decS x.1 x.2 = true := by decide +kernel
theorem EnOk.ents {E : List En} {key : Int} (h : EnOk E key) (hk : key ≤ 1000000) (h1 : 1 ≤ E.length) (h2 : E.length ≤ 64) : entsS E.length (lF dE E) = true := by
  have hg : ∀ i (hi : i < E.length), lF dE E i = E[i] := fun i hi => by unfold lF; rw [List.getD_eq_getElem?_getD, List.getElem?_eq_getElem hi]; rfl
  unfold entsS
  rw [decide_eq_true (by omega : 1 ≤ E.length ∧ E.length ≤ 64), Bool.true_and, allK_iff]
  intro i hi
  have ha := h.all _ (List.getElem_mem hi)
  have hd := (dec_ok _ ha.2.2).2.2
  rw [hg i hi, hd, Bool.and_true, decide_eq_true_eq]
  refine ⟨?_, by omega⟩
  by_cases h0 : i = 0
  · rw [if_pos h0]; omega
  · rw [if_neg h0, hg (i - 1) (by omega)]
    exact List.pairwise_iff_getElem.1 h.asc (i - 1) i (by omega) hi (by omega)
structure ScOk (nm : ByteArray) (t : Ty) (day : Int) (d : Df) : Prop where
  eq : d = ⟨2, nm, t, day, d.ne, d.ef, .nil, 0, 0, 0⟩
  en : entsS d.ne d.ef = true
  ef : ∀ i, i < d.ne → -9223372036854775808 ≤ (d.ef i).2.1 ∧ (d.ef i).2.1 ≤ 9223372036854775807
  ne : d.ne ≤ 64
  dl : ∀ i, i < d.ne → (d.ef i).2 ∈ decL ∧ -1000000000000 ≤ (d.ef i).1 ∧ (d.ef i).1 ≤ 1000000000000
abbrev rScl (nm : ByteArray) (t : Ty) (day : Int) (k l : Nat) : List PV := [vi 2, vs nm, vb t.b, vi t.m, vi t.h, vi t.d, vi day, slP k l, vi 0, vi 0, vi 0, vi 0, vi 0, vi 0, vs ⟨#[]⟩, vi 0, vi 0, .val (.slice none 0 0), vi 0, vi 0, vi 0]
abbrev zD : List PV := [vi 0, vs ⟨#[]⟩, vb false, vi 0, vi 0, vi 0, vi 0, .val (.slice none 0 0), vi 0, vi 0, vi 0, vi 0, vi 0, vi 0, vs ⟨#[]⟩, vi 0, vi 0, .val (.slice none 0 0), vi 0, vi 0, vi 0]
theorem argSc19 {mem : List Row} {L : List Nat} {nm : ByteArray} {t : Ty} {day : Int} {p : PV} {ne : Nat} {ef : Nat → En} (h : ArgOk mem L p (.vsl ne 3 (tF cN3 ef))) : ArgOk mem L (.agg 21 (nthP [vi 2, vs nm, vb t.b, vi t.m, vi t.h, vi t.d, vi day, p, vi 0, vi 0, vi 0, vi 0, vi 0, vi 0, vs ⟨#[]⟩, vi 0, vi 0, .val (.slice none 0 0), vi 0, vi 0, vi 0])) (vD ⟨2, nm, t, day, ne, ef, .nil, 0, 0, 0⟩) := argAggL fun i hi => by
  rcases (by omega : i = 0 ∨ i = 1 ∨ i = 2 ∨ i = 3 ∨ i = 4 ∨ i = 5 ∨ i = 6 ∨ i = 7 ∨ i = 8 ∨ i = 9 ∨ i = 10 ∨ i = 11 ∨ i = 12 ∨ i = 13 ∨ i = 14 ∨ i = 15 ∨ i = 16 ∨ i = 17 ∨ i = 18 ∨ i = 19 ∨ i = 20) with rfl | rfl | rfl | rfl | rfl | rfl | rfl | rfl | rfl | rfl | rfl | rfl | rfl | rfl | rfl | rfl | rfl | rfl | rfl | rfl | rfl
  · exact argVal
  · exact argVal
  · exact argVal
  · exact argVal
  · exact argVal
  · exact argVal
  · exact argVal
  · exact h
  · exact argVal
  · exact argVal
  · exact argVal
  · exact argVal
  · exact argVal
  · exact argVal
  · exact argVal
  · exact argVal
  · exact argVal
  · exact argNil
  · exact argVal
  · exact argVal
  · exact argVal
set_option maxHeartbeats 4000000 in
theorem scale_t (nm : ByteArray) (t : Ty) (day : Int) : TapC G.P 16 [vs nm, vT t, vi day] (fun r => ∃ d : Df, r = vD d ∧ ScOk nm t day d) := by
  intro n g at_ hn h1 h2
  refine ptr_of (G := G.toPg) (fn := Try.f16) Try.func16 rfl rfl rfl ?_; intro Γ hk
  repeat' (first | refine yo ?_ ?_ | refine yw ?_ ?_ | refine yk ?_ ?_ | exact trivial | with_reducible refine wA ?_ ?_ | refine ys ?_ ?_ | refine xs_done ?_ | refine yl ?_ ?_ | (refine tn1 hn ?_; rintro at_ b1 b2 x hx1 hx2) | refine w8 ?_ | refine w9 ?_ | refine w1 ?_ | refine w2 ?_ | refine w3 ?_ | refine w4 ?_ | refine w5 ?_ | refine w6 ?_ | refine w7 ?_ | refine yo0 ?_ ?_ | refine yw0 ?_ ?_ | exact qq | fail)
  rename_i key hk1 hk2
  obtain ⟨X, rfl⟩ := Int.eq_ofNat_of_zero_le hx1
  have hw : IntKind.i64.wrap (1 + (X : Int)) = ((X + 1 : Nat) : Int) := by rw [w64 (by omega) (by omega)]; omega
  rw [hw]
  refine pcan (can_virt (vRow cN3 3 0 (lF dE [])) rfl) ?_
  refine pcan (st' := ⟨[(0, .ptr 0 0 0), (8, .ptr 1 0 0), (9, .ptr 2 0 0), (10, vi key), (11, vi ((X + 1 : Nat) : Int))], [tapeRow n g at_, ⟨.own, true, 1, 21, fun _ => nthP zD⟩, ⟨.own, true, 1, 21, fun _ => nthP (rScl nm t day 0 3)⟩, vRow cN3 3 0 (lF dE [])]⟩) (can_rowsv [0, 2, 3, 4] (k0_sel hk rfl) rfl (.cons rfl (RowEq.cl (tape_cl _ _ _)) (.cons rfl rqq (.cons rfl rqq (.cons rfl (RowEq.cl (v_cl cN3_cl _ _ _)) .nil)))) (by (repeat refine ⟨PEq.refl _, ?_⟩); exact trivial)) ?_
  refine ploop (fun q st => ∃ (at' : Int) (i k : Nat) (E : List En) (ky : Int), 0 ≤ at' ∧ at' ≤ n ∧ E.length = k ∧ k + i = X + 1 ∧ q = i ∧ EnOk E ky ∧ 0 ≤ ky ∧ ky ≤ 1 + 4 * k ∧ st = ⟨[(0, .ptr 0 0 0), (8, .ptr 1 0 0), (9, .ptr 2 0 0), (10, vi ky), (11, vi i)], [tapeRow n g at', ⟨.own, true, 1, 21, fun _ => nthP zD⟩, ⟨.own, true, 1, 21, fun _ => nthP (rScl nm t day k 3)⟩, vRow cN3 3 k (lF dE E)]⟩) (X + 1) ⟨at_, X + 1, 0, [], key, b1, b2, rfl, by omega, rfl, ⟨List.Pairwise.nil, by simp⟩, hk1, by omega, rfl⟩ ?_
  rintro i _ ⟨at', _, k, E, ky, b1, b2, hEk, hki, rfl, hE, hky0, hky1, rfl⟩
  repeat' (first | refine yo ?_ ?_ | refine yw ?_ ?_ | refine yk ?_ ?_ | exact trivial | with_reducible refine wA ?_ ?_ | refine ys ?_ ?_ | refine xs_done ?_ | refine yl ?_ ?_ | refine w8 ?_ | refine w9 ?_ | refine w1 ?_ | refine w2 ?_ | refine w3 ?_ | refine w4 ?_ | refine w5 ?_ | refine w6 ?_ | refine w7 ?_ | refine yo0 ?_ ?_ | refine yw0 ?_ ?_ | exact qq | fail)
  refine pcond rfl ?_ ?_ <;> intro hc <;> simp at hc
  · have hwi : IntKind.i64.wrap ((i : Int) - 1) = ((i - 1 : Nat) : Int) := by rw [w64 (by omega) (by omega)]; omega
    rcases k with _ | k
    · repeat' (first | refine yo ?_ ?_ | refine yw ?_ ?_ | refine yk ?_ ?_ | exact trivial | with_reducible refine wA ?_ ?_ | refine ys ?_ ?_ | refine xs_done ?_ | refine yl ?_ ?_ | refine xs_startH (id := 6) [1,2] true [.take 0, .take 1, .take 2, .take 3, .one 4, .take 5, .one 6, .one 7, .take 8, .one 9] 0 rfl (by kernel_rfl) ?_ | (refine t1 decimal_t hn ?_; rintro at_ _ b1 b2 ⟨y, rfl, hy⟩) | (refine t2 decimal_t hn ?_; rintro at_ _ b1 b2 ⟨y, rfl, hy⟩) | (refine t3 decimal_t hn ?_; rintro at_ _ b1 b2 ⟨y, rfl, hy⟩) | exact ⟨Nat.le_refl _, (by rw [hk]; exact Nat.le_of_ble_eq_true rfl), Nat.le_of_eq (Nat.zero_add _), (show (_ : Nat) * 24 ≤ 140737488355328 from by omega), (show (_ : Nat) ≤ 9223372036854775807 from by omega)⟩ | (refine tn1 hn ?_; rintro at_ b1 b2 x hx1 hx2) | refine w8 ?_ | refine w9 ?_ | refine w1 ?_ | refine w2 ?_ | refine w3 ?_ | refine w4 ?_ | refine w5 ?_ | refine w6 ?_ | refine w7 ?_ | refine yo0 ?_ ?_ | refine yw0 ?_ ?_ | exact qq | fail)
      refine xdone ?_
      have hwz : IntKind.i64.wrap (ky + IntKind.i64.wrap (1 + x)) = ky + (1 + x) := by rw [w64 (n := 1 + x) (by omega) (by omega), w64 (by omega) (by omega)]
      rw [hwz, hwi]
      exact kloop_next (st' := ⟨[(0, .ptr 0 0 0), (8, .ptr 1 0 0), (9, .ptr 2 0 0), (10, vi (ky + (1 + x))), (11, vi ((i - 1 : Nat) : Int))], [tapeRow n g _, ⟨.own, true, 1, 21, fun _ => nthP zD⟩, ⟨.own, true, 1, 21, fun _ => nthP (rScl nm t day (0 + 1) 3)⟩, vRow cN3 3 (0 + 1) (lF dE (E ++ [(ky, y)]))]⟩) (i - 1) (can_rowsv [0, 1, 2, 5] (k0_sel hk rfl) rfl (.cons rfl (RowEq.cl (tape_cl _ _ _)) (.cons rfl rqq (.cons rfl rqq (.cons rfl (by first | exact app_l cN3_cl (by assumption) rfl rfl | exact app_l0 cN3_cl (by assumption) rfl) .nil)))) tmq) (by omega) ⟨_, i - 1, 0 + 1, _, _, b1, b2, by rw [List.length_append, hEk]; rfl, by omega, rfl, hE.snoc hky0 hy (by omega), by omega, by omega, rfl⟩
    · repeat' (first | refine yo ?_ ?_ | refine yw ?_ ?_ | refine yk ?_ ?_ | exact trivial | with_reducible refine wA ?_ ?_ | refine ys ?_ ?_ | refine xs_done ?_ | refine yl ?_ ?_ | refine xs_startH (id := 6) [1,2] true [.take 0, .take 1, .take 2, .take 3, .one 4, .take 5, .one 6, .one 7, .take 8, .one 9] 0 rfl (by kernel_rfl) ?_ | (refine t1 decimal_t hn ?_; rintro at_ _ b1 b2 ⟨y, rfl, hy⟩) | (refine t2 decimal_t hn ?_; rintro at_ _ b1 b2 ⟨y, rfl, hy⟩) | (refine t3 decimal_t hn ?_; rintro at_ _ b1 b2 ⟨y, rfl, hy⟩) | exact ⟨Nat.le_refl _, (by rw [hk]; exact Nat.le_of_ble_eq_true rfl), Nat.le_of_eq (Nat.zero_add _), (show (_ : Nat) * 24 ≤ 140737488355328 from by omega), (show (_ : Nat) ≤ 9223372036854775807 from by omega)⟩ | (refine tn1 hn ?_; rintro at_ b1 b2 x hx1 hx2) | refine w8 ?_ | refine w9 ?_ | refine w1 ?_ | refine w2 ?_ | refine w3 ?_ | refine w4 ?_ | refine w5 ?_ | refine w6 ?_ | refine w7 ?_ | refine yo0 ?_ ?_ | refine yw0 ?_ ?_ | exact qq | fail)
      refine xdone ?_
      have hwz : IntKind.i64.wrap (ky + IntKind.i64.wrap (1 + x)) = ky + (1 + x) := by rw [w64 (n := 1 + x) (by omega) (by omega), w64 (by omega) (by omega)]
      rw [hwz, hwi]
      exact kloop_next (st' := ⟨[(0, .ptr 0 0 0), (8, .ptr 1 0 0), (9, .ptr 2 0 0), (10, vi (ky + (1 + x))), (11, vi ((i - 1 : Nat) : Int))], [tapeRow n g _, ⟨.own, true, 1, 21, fun _ => nthP zD⟩, ⟨.own, true, 1, 21, fun _ => nthP (rScl nm t day ((k + 1) + 1) 3)⟩, vRow cN3 3 ((k + 1) + 1) (lF dE (E ++ [(ky, y)]))]⟩) (i - 1) (can_rowsv [0, 1, 2, 5] (k0_sel hk rfl) rfl (.cons rfl (RowEq.cl (tape_cl _ _ _)) (.cons rfl rqq (.cons rfl rqq (.cons rfl (by first | exact app_l cN3_cl (by assumption) rfl rfl | exact app_l0 cN3_cl (by assumption) rfl) .nil)))) tmq) (by omega) ⟨_, i - 1, (k + 1) + 1, _, _, b1, b2, by rw [List.length_append, hEk]; rfl, by omega, rfl, hE.snoc hky0 hy (by omega), by omega, by omega, rfl⟩
  · obtain rfl : i = 0 := by omega
    rcases k with _ | k
    · omega
    · repeat' (first | refine yo ?_ ?_ | refine yw ?_ ?_ | refine yk ?_ ?_ | exact trivial | with_reducible refine wA ?_ ?_ | refine ys ?_ ?_ | refine xs_done ?_ | refine yl ?_ ?_ | refine w8 ?_ | refine w9 ?_ | refine w1 ?_ | refine w2 ?_ | refine w3 ?_ | refine w4 ?_ | refine w5 ?_ | refine w6 ?_ | refine w7 ?_ | refine yo0 ?_ ?_ | refine yw0 ?_ ?_ | exact qq | fail)
      refine ktapL [3] (qs := [vD ⟨2, nm, t, day, k + 1, lF dE E, .nil, 0, 0, 0⟩]) rfl b1 b2 (by simp) rfl ⟨Nat.zero_lt_one, trivial⟩ ⟨argSc19 (arg_o (s := .own) cN3_cl rfl trivial (List.Mem.head _)), trivial⟩ ⟨_, rfl, rfl, ?_, ?_, ?_, ?_⟩
      · show entsS (k + 1) _ = true
        rw [← hEk]; exact hE.ents (by omega) (by omega) (by omega)
      · intro i hi
        have hi : i < k + 1 := hi
        have hm : lF dE E i ∈ E := by unfold lF; rw [List.getD_eq_getElem?_getD, List.getElem?_eq_getElem (by omega)]; exact List.getElem_mem _
        have := dec_ok _ (hE.all _ hm).2.2
        exact ⟨this.1, this.2.1⟩
      · show k + 1 ≤ 64; omega
      · intro i hi
        have hi : i < k + 1 := hi
        have hm : lF dE E i ∈ E := by unfold lF; rw [List.getD_eq_getElem?_getD, List.getElem?_eq_getElem (by omega)]; exact List.getElem_mem _
        obtain ⟨e1, e2, e3⟩ := hE.all _ hm
        exact ⟨e3, show -1000000000000 ≤ (lF dE E i).1 by omega, show (lF dE E i).1 ≤ 1000000000000 by omega⟩
end Go.Proofs.Ytcefhgomkehokaa
