/- depend: (graph).cycle. -/
import Derived.Test.YtcefhgomkehokaaA11
import Derived.Test.YtcefhgomkehokaaA10
set_option linter.unusedSimpArgs false
set_option linter.unusedVariables false
set_option maxRecDepth 100000
namespace Go.Proofs.Ytcefhgomkehokaa
open Go.MapKept
def nxtG (m : List (Int × Int)) (b i : Int) : Int := match mget m i with
  | none => b
  | some d => if b < 0 ∨ d < (mget m b).getD 0 then i else b
def nxtF (m : List (Int × Int)) (l : List Int) : Int := l.foldl (nxtG m) (-1)
theorem nxtF_snoc {m : List (Int × Int)} {l : List Int} {i : Int} : nxtF m (l ++ [i]) = nxtG m (nxtF m l) i := by
  unfold nxtF; rw [List.foldl_append]; rfl
def NxtOk (m : List (Int × Int)) (l : List Int) (b : Int) : Prop := (b = -1 ∧ ∀ i, i ∈ l → mget m i = none) ∨ (0 ≤ b ∧ b ∈ l ∧ ∃ d, mget m b = some d ∧ ∀ i, i ∈ l → ∀ d', mget m i = some d' → d ≤ d')
theorem nxtF_ok (m : List (Int × Int)) (l : List Int) (h0 : ∀ i, i ∈ l → 0 ≤ i) : ∀ j, NxtOk m (l.take j) (nxtF m (l.take j))
  | 0 => .inl ⟨rfl, fun i hi => by rw [List.take_zero] at hi; exact absurd hi List.not_mem_nil⟩
  | j + 1 => by
    have ih := nxtF_ok m l h0 j
    by_cases hj : j < l.length
    · have hT : l.take (j + 1) = l.take j ++ [l[j]] := by rw [List.take_add_one, List.getElem?_eq_getElem hj]; rfl
      rw [hT, nxtF_snoc]
      have hx := h0 l[j] (List.getElem_mem hj)
      generalize l[j] = x at *
      unfold nxtG
      cases hm : mget m x with
      | none =>
        show NxtOk _ _ (nxtF m (l.take j))
        rcases ih with ⟨e, ih⟩ | ⟨e0, e1, d, e2, e3⟩
        · refine .inl ⟨e, fun i hi => ?_⟩
          rcases List.mem_append.1 hi with hi | hi
          · exact ih i hi
          · rw [List.mem_singleton.1 hi]; exact hm
        · refine .inr ⟨e0, List.mem_append_left _ e1, d, e2, fun i hi d' hd' => ?_⟩
          rcases List.mem_append.1 hi with hi | hi
          · exact e3 i hi d' hd'
          · rw [List.mem_singleton.1 hi, hm] at hd'; cases hd'
      | some dx =>
        show NxtOk _ _ (if _ then x else nxtF m (l.take j))
        by_cases hc : nxtF m (l.take j) < 0 ∨ dx < (mget m (nxtF m (l.take j))).getD 0
        · rw [if_pos hc]
          refine .inr ⟨hx, List.mem_append_right _ (List.mem_singleton.2 rfl), dx, hm, fun i hi d' hd' => ?_⟩
          rcases List.mem_append.1 hi with hi | hi
          · rcases ih with ⟨e, ih⟩ | ⟨e0, e1, d, e2, e3⟩
            · rw [ih i hi] at hd'; cases hd'
            · rcases hc with hc | hc
              · omega
              · rw [e2] at hc
                have hc : dx < d := hc
                have := e3 i hi d' hd'
                omega
          · rw [List.mem_singleton.1 hi, hm] at hd'
            injection hd' with hd'
            omega
        · rw [if_neg hc]
          rcases ih with ⟨e, ih⟩ | ⟨e0, e1, d, e2, e3⟩
          · exact absurd (.inl (by omega)) hc
          · refine .inr ⟨e0, List.mem_append_left _ e1, d, e2, fun i hi d' hd' => ?_⟩
            rcases List.mem_append.1 hi with hi | hi
            · exact e3 i hi d' hd'
            · rw [List.mem_singleton.1 hi, hm] at hd'
              injection hd' with hd'
              rw [e2] at hc
              have : ¬ dx < d := fun h => hc (.inr h)
              omega
    · rw [List.take_of_length_le (by omega)] at ih ⊢
      exact ih
def cycF (m : List (Int × Int)) (L : List (Int × List Int)) (start : Int) : Nat → Int → List Int → List Int
  | 0, _, _ => []
  | f + 1, at_, out => if nxtF m (sget L at_) < 0 then [] else if nxtF m (sget L at_) = start then out ++ [at_] else cycF m L start f (nxtF m (sget L at_)) (out ++ [at_])
def cycR (c : List Int) : PV := match c with
  | [] => .val (.slice none 0 0)
  | a :: l => sV (a :: l)
theorem cycR_snoc {l : List Int} {a : Int} : cycR (l ++ [a]) = sV (l ++ [a]) := by
  cases l <;> rfl
def cycS (N : List Int) (L : List (Int × List Int)) (start : Int) : List Int := cycF (disS N L start) L start (N.length + 4) start []
set_option maxHeartbeats 8000000 in
theorem cycle_c (N : List Int) (L : List (Int × List Int)) (start : Int) (hN : N.length ≤ 900000) (hL : ∀ e, e ∈ L → e.2.length ≤ 1000000) (hL0 : ∀ x y, y ∈ sget L x → 0 ≤ y) : PureC G.P 45 [vGr N L, vi start] (fun r => r = cycR (cycS N L start)) := by
  obtain ⟨p0, hI⟩ := disS_inv N L start
  have hlen := hI.len
  have hzero : ∀ x, mget (disS N L start) x = some 0 → x = start := fun x hx => hI.zero _ (mget_some hx) rfl
  have hpos : ∀ x d, mget (disS N L start) x = some d → 0 ≤ d ∧ d ≤ N.length + 1 ∧ (0 < d → ∃ y, y ∈ sget L x ∧ mget (disS N L start) y = some (d - 1)) := fun x d hx => by
    have h1 := hI.val _ (mget_some hx)
    have h2 : (disS N L start).length ≤ N.length + 1 := hlen
    have h3 : 0 ≤ d := h1.1
    have h4 : d ≤ (disS N L start).length := h1.2
    exact ⟨h3, by omega, fun h => hI.pos _ (mget_some hx) h⟩
  have dr := distances_r N L start (by omega) hL
  have hS : cycS N L start = cycF (disS N L start) L start (N.length + 4) start [] := rfl
  generalize disS N L start = m at *
  generalize cycS N L start = cyc at *
  refine pure_of (G := G.toPg) (fn := Try.f45) Try.func45 rfl rfl rfl ?_; intro Γ hk
  repeat' (first | refine yo ?_ ?_ | refine yw ?_ ?_ | refine yk ?_ ?_ | exact trivial | with_reducible refine wA ?_ ?_ | refine ys ?_ ?_ | refine xs_done ?_ | refine yl ?_ ?_ | refine w8 ?_ | refine w9 ?_ | refine w1 ?_ | refine w2 ?_ | refine w3 ?_ | refine w4 ?_ | refine w5 ?_ | refine w6 ?_ | refine w7 ?_ | refine yo0 ?_ ?_ | refine yw0 ?_ ?_ | exact qq | fail)
  refine pop_rowsc [] rfl rfl rfl rfl rfl rfl .nil dr (by exact ⟨PEq.cl (vGr N L) (clA ⟨trivial, trivial, trivial⟩), PEq.refl _, trivial⟩) ?_
  rintro r rows ⟨rfl, rfl⟩
  refine ⟨_, _, rfl, ⟨m_cl _ _, trivial⟩, rfl, ?_⟩
  repeat' (first | refine yo ?_ ?_ | refine yw ?_ ?_ | refine yk ?_ ?_ | exact trivial | with_reducible refine wA ?_ ?_ | refine ys ?_ ?_ | refine xs_done ?_ | refine yl ?_ ?_ | refine w8 ?_ | refine w9 ?_ | refine w1 ?_ | refine w2 ?_ | refine w3 ?_ | refine w4 ?_ | refine w5 ?_ | refine w6 ?_ | refine w7 ?_ | refine yo0 ?_ ?_ | refine yw0 ?_ ?_ | exact qq | fail)
  refine pcan ((can_virt (vRow c1 1 0 (lF 0 [])) rfl).trans (can_rowsv [0, 1, 2] (tm := [(1, vi start), (2, .ptr 0 0 0), (5, .mref 1), (6, slP 0 2), (7, vi start)]) (rows := [cG (sV N) (.vmap (cS L)), mRow kI m, vRow c1 1 0 (lF 0 [])]) (k0_sel hk rfl) rfl (.cons rfl (cG_eq (PEq.refl _) (PEq.refl _)) (.cons rfl m_eq (.cons rfl (RowEq.cl (v_cl c1_cl _ _ _)) .nil))) tmq)) ?_
  refine ploop (fun q st => ∃ (k f : Nat) (at_ : Int) (out : List Int), out.length = k ∧ k + q ≤ N.length + 3 ∧ q < f ∧ cyc = cycF m L start f at_ out ∧ ((out = [] ∧ at_ = start ∧ q = N.length + 3) ∨ ∃ d, mget m at_ = some d ∧ 0 < d ∧ q = d.toNat) ∧ st = ⟨[(1, vi start), (2, .ptr 0 0 0), (5, .mref 1), (6, slP k 2), (7, vi at_)], [cG (sV N) (.vmap (cS L)), mRow kI m, vRow c1 1 k (lF 0 out)]⟩) (N.length + 3) ⟨0, N.length + 4, start, [], rfl, by omega, by omega, hS, .inl ⟨rfl, rfl, rfl⟩, rfl⟩ ?_
  rintro q _ ⟨k, f, at_, out, hk2, hkq, hqf, hcy, hq, rfl⟩
  refine pblock ?_
  refine pseq ?_
  refine pcut (fun st => st = ⟨[(1, vi start), (2, .ptr 0 0 0), (5, .mref 1), (6, slP (k + 1) 2), (7, vi at_)], [cG (sV N) (.vmap (cS L)), mRow kI m, vRow c1 1 (k + 1) (lF 0 (out ++ [at_]))]⟩) ?_ ?_
  · have hkb : k ≤ 1000000 := by omega
    rcases k with _ | k
    · repeat' (first | refine yo ?_ ?_ | refine yw ?_ ?_ | refine yk ?_ ?_ | exact trivial | with_reducible refine wA ?_ ?_ | refine ys ?_ ?_ | refine xs_done ?_ | refine yl ?_ ?_ | exact ⟨Nat.le_refl _, (by rw [hk]; exact Nat.le_of_ble_eq_true rfl), Nat.le_of_eq (Nat.zero_add _), (show (_ : Nat) * 8 ≤ 140737488355328 from by omega), (show (_ : Nat) ≤ 9223372036854775807 from by omega)⟩ | refine w8 ?_ | refine w9 ?_ | refine w1 ?_ | refine w2 ?_ | refine w3 ?_ | refine w4 ?_ | refine w5 ?_ | refine w6 ?_ | refine w7 ?_ | refine yo0 ?_ ?_ | refine yw0 ?_ ?_ | exact qq | fail)
      exact kcut (can_rowsv [0, 1, 4] (k0_sel hk rfl) rfl (.cons rfl (cG_eq (PEq.refl _) (PEq.refl _)) (.cons rfl m_eq (.cons rfl (app_l0 c1_cl hk2 rfl) .nil))) tmq) rfl
    · repeat' (first | refine yo ?_ ?_ | refine yw ?_ ?_ | refine yk ?_ ?_ | exact trivial | with_reducible refine wA ?_ ?_ | refine ys ?_ ?_ | refine xs_done ?_ | refine yl ?_ ?_ | exact ⟨Nat.le_refl _, (by rw [hk]; exact Nat.le_of_ble_eq_true rfl), Nat.le_of_eq (Nat.zero_add _), (show (_ : Nat) * 8 ≤ 140737488355328 from by omega), (show (_ : Nat) ≤ 9223372036854775807 from by omega)⟩ | refine w8 ?_ | refine w9 ?_ | refine w1 ?_ | refine w2 ?_ | refine w3 ?_ | refine w4 ?_ | refine w5 ?_ | refine w6 ?_ | refine w7 ?_ | refine yo0 ?_ ?_ | refine yw0 ?_ ?_ | exact qq | fail)
      exact kcut (can_rowsv [0, 1, 4] (k0_sel hk rfl) rfl (.cons rfl (cG_eq (PEq.refl _) (PEq.refl _)) (.cons rfl m_eq (.cons rfl (app_l c1_cl hk2 rfl rfl) .nil))) tmq) rfl
  rintro _ rfl
  repeat' (first | refine yo ?_ ?_ | refine yw ?_ ?_ | refine yk ?_ ?_ | exact trivial | with_reducible refine wA ?_ ?_ | refine ys ?_ ?_ | refine xs_done ?_ | refine yl ?_ ?_ | refine w8 ?_ | refine w9 ?_ | refine w1 ?_ | refine w2 ?_ | refine w3 ?_ | refine w4 ?_ | refine w5 ?_ | refine w6 ?_ | refine w7 ?_ | refine yo0 ?_ ?_ | refine yw0 ?_ ?_ | exact qq | fail)
  refine pop_lookvS mapIS at_ rfl rfl rfl rfl rfl rfl ?_
  have hlb : (sget L at_).length ≤ 1000000 := sget_len (N := N) hL at_
  repeat' (first | refine yo ?_ ?_ | refine yw ?_ ?_ | refine yk ?_ ?_ | exact trivial | with_reducible refine wA ?_ ?_ | refine ys ?_ ?_ | refine xs_done ?_ | refine yl ?_ ?_ | refine w8 ?_ | refine w9 ?_ | refine w1 ?_ | refine w2 ?_ | refine w3 ?_ | refine w4 ?_ | refine w5 ?_ | refine w6 ?_ | refine w7 ?_ | refine yo0 ?_ ?_ | refine yw0 ?_ ?_ | exact qq | fail)
  refine pcan (st' := ⟨[(1, vi start), (2, .ptr 0 0 0), (5, .mref 1), (6, slP (k + 1) 2), (8, vi (-1)), (24, sV (sget L at_)), (25, vi (sget L at_).length), (26, vi ((0 : Nat) : Int))], [cG (sV N) (.vmap (cS L)), mRow kI m, vRow c1 1 (k + 1) (lF 0 (out ++ [at_]))]⟩) (can_rowsv [0, 1, 2] (k0_sel hk rfl) rfl (.cons rfl (cG_eq (PEq.refl _) (PEq.refl _)) (.cons rfl m_eq (.cons rfl (RowEq.cl (v_cl c1_cl _ _ _)) .nil))) tmq) ?_
  refine ploop (fun q st => ∃ (j : Nat) (b : Int), j ≤ (sget L at_).length ∧ b = nxtF m ((sget L at_).take j) ∧ q = (sget L at_).length - j ∧ st = ⟨[(1, vi start), (2, .ptr 0 0 0), (5, .mref 1), (6, slP (k + 1) 2), (8, vi b), (24, sV (sget L at_)), (25, vi (sget L at_).length), (26, vi j)], [cG (sV N) (.vmap (cS L)), mRow kI m, vRow c1 1 (k + 1) (lF 0 (out ++ [at_]))]⟩) (sget L at_).length ⟨0, -1, Nat.zero_le _, by rw [List.take_zero]; rfl, rfl, rfl⟩ ?_
  rintro _ _ ⟨j, b, hj, hb, rfl, rfl⟩
  have hw1 : IntKind.i64.wrap ((j : Int) + 1) = ((j + 1 : Nat) : Int) := w64 (by omega) (by omega)
  repeat' (first | refine yo ?_ ?_ | refine yw ?_ ?_ | refine yk ?_ ?_ | exact trivial | with_reducible refine wA ?_ ?_ | refine ys ?_ ?_ | refine xs_done ?_ | refine yl ?_ ?_ | refine w8 ?_ | refine w9 ?_ | refine w1 ?_ | refine w2 ?_ | refine w3 ?_ | refine w4 ?_ | refine w5 ?_ | refine w6 ?_ | refine w7 ?_ | refine yo0 ?_ ?_ | refine yw0 ?_ ?_ | exact qq | fail)
  refine pcond rfl ?_ ?_ <;> intro hc
  · have hc : j < (sget L at_).length := by have := of_decide_eq_true hc; omega
    have hT : (sget L at_).take (j + 1) = (sget L at_).take j ++ [lF 0 (sget L at_) j] := by
      unfold lF
      rw [List.take_add_one, List.getD_eq_getElem?_getD, List.getElem?_eq_getElem (by omega)]; rfl
    have hG : nxtF m ((sget L at_).take (j + 1)) = nxtG m b (lF 0 (sget L at_) j) := by rw [hT, nxtF_snoc, ← hb]
    repeat' (first | refine yo ?_ ?_ | refine yw ?_ ?_ | refine yk ?_ ?_ | exact trivial | with_reducible refine wA ?_ ?_ | refine ys ?_ ?_ | refine xs_done ?_ | refine yl ?_ ?_ | refine w8 ?_ | refine w9 ?_ | refine w1 ?_ | refine w2 ?_ | refine w3 ?_ | refine w4 ?_ | refine w5 ?_ | refine w6 ?_ | refine w7 ?_ | refine yo0 ?_ ?_ | refine yw0 ?_ ?_ | exact qq | fail)
    refine pop_look mapIId true (lF 0 (sget L at_) j) rfl rfl rfl rfl rfl rfl rfl ?_
    cases hm : mget m (lF 0 (sget L at_) j) with
    | none =>
      have hG2 : nxtG m b (lF 0 (sget L at_) j) = b := by unfold nxtG; rw [hm]
      repeat' (first | refine yo ?_ ?_ | refine yw ?_ ?_ | refine yk ?_ ?_ | exact trivial | with_reducible refine wA ?_ ?_ | refine ys ?_ ?_ | refine xs_done ?_ | refine yl ?_ ?_ | (refine pop_gfalse rfl rfl rfl rfl ?_) | exact (fun hh => by cases hh) | refine w8 ?_ | refine w9 ?_ | refine w1 ?_ | refine w2 ?_ | refine w3 ?_ | refine w4 ?_ | refine w5 ?_ | refine w6 ?_ | refine w7 ?_ | refine yo0 ?_ ?_ | refine yw0 ?_ ?_ | exact qq | fail)
      rw [hw1]
      exact kloop_next (st' := ⟨[(1, vi start), (2, .ptr 0 0 0), (5, .mref 1), (6, slP (k + 1) 2), (8, vi b), (24, sV (sget L at_)), (25, vi (sget L at_).length), (26, vi ((j + 1 : Nat) : Int))], [cG (sV N) (.vmap (cS L)), mRow kI m, vRow c1 1 (k + 1) (lF 0 (out ++ [at_]))]⟩) ((sget L at_).length - (j + 1)) (can_rowsv [0, 1, 2] (k0_sel hk rfl) rfl (.cons rfl (cG_eq (PEq.refl _) (PEq.refl _)) (.cons rfl m_eq (.cons rfl (RowEq.cl (v_cl c1_cl _ _ _)) .nil))) tmq) (by omega) ⟨j + 1, _, by omega, by rw [hG, hG2], rfl, rfl⟩
    | some d =>
      by_cases hb0 : b < 0
      · have hG2 : nxtG m b (lF 0 (sget L at_) j) = lF 0 (sget L at_) j := by unfold nxtG; rw [hm]; exact if_pos (.inl hb0)
        repeat' (first | refine yo ?_ ?_ | refine yw ?_ ?_ | refine yk ?_ ?_ | exact trivial | with_reducible refine wA ?_ ?_ | refine ys ?_ ?_ | refine xs_done ?_ | refine yl ?_ ?_ | refine w8 ?_ | refine w9 ?_ | refine w1 ?_ | refine w2 ?_ | refine w3 ?_ | refine w4 ?_ | refine w5 ?_ | refine w6 ?_ | refine w7 ?_ | refine yo0 ?_ ?_ | refine yw0 ?_ ?_ | exact qq | fail)
        rw [decide_eq_true hb0]
        repeat' (first | refine yo ?_ ?_ | refine yw ?_ ?_ | refine yk ?_ ?_ | exact trivial | with_reducible refine wA ?_ ?_ | refine ys ?_ ?_ | refine xs_done ?_ | refine yl ?_ ?_ | (refine pop_gfalse rfl rfl rfl rfl ?_) | (intro hh; cases hh; done) | (intro _; exact ⟨rfl, trivial⟩) | (exact ⟨rfl, trivial⟩) | refine w8 ?_ | refine w9 ?_ | refine w1 ?_ | refine w2 ?_ | refine w3 ?_ | refine w4 ?_ | refine w5 ?_ | refine w6 ?_ | refine w7 ?_ | refine yo0 ?_ ?_ | refine yw0 ?_ ?_ | exact qq | fail)
        rw [hw1]
        exact kloop_next (st' := ⟨[(1, vi start), (2, .ptr 0 0 0), (5, .mref 1), (6, slP (k + 1) 2), (8, vi (lF 0 (sget L at_) j)), (24, sV (sget L at_)), (25, vi (sget L at_).length), (26, vi ((j + 1 : Nat) : Int))], [cG (sV N) (.vmap (cS L)), mRow kI m, vRow c1 1 (k + 1) (lF 0 (out ++ [at_]))]⟩) ((sget L at_).length - (j + 1)) (can_rowsv [0, 1, 2] (k0_sel hk rfl) rfl (.cons rfl (cG_eq (PEq.refl _) (PEq.refl _)) (.cons rfl m_eq (.cons rfl (RowEq.cl (v_cl c1_cl _ _ _)) .nil))) tmq) (by omega) ⟨j + 1, _, by omega, by rw [hG, hG2], rfl, rfl⟩
      · repeat' (first | refine yo ?_ ?_ | refine yw ?_ ?_ | refine yk ?_ ?_ | exact trivial | with_reducible refine wA ?_ ?_ | refine ys ?_ ?_ | refine xs_done ?_ | refine yl ?_ ?_ | refine w8 ?_ | refine w9 ?_ | refine w1 ?_ | refine w2 ?_ | refine w3 ?_ | refine w4 ?_ | refine w5 ?_ | refine w6 ?_ | refine w7 ?_ | refine yo0 ?_ ?_ | refine yw0 ?_ ?_ | exact qq | fail)
        rw [decide_eq_false hb0]
        refine pop_opt 42 rfl rfl ?_
        refine pop_opt 43 rfl rfl ?_
        refine pop_unguard rfl rfl ?_
        refine pop_look mapIId false b rfl rfl rfl rfl rfl rfl rfl ?_
        repeat' (first | refine yo ?_ ?_ | refine yw ?_ ?_ | refine yk ?_ ?_ | exact trivial | with_reducible refine wA ?_ ?_ | refine ys ?_ ?_ | refine xs_done ?_ | refine yl ?_ ?_ | refine w8 ?_ | refine w9 ?_ | refine w1 ?_ | refine w2 ?_ | refine w3 ?_ | refine w4 ?_ | refine w5 ?_ | refine w6 ?_ | refine w7 ?_ | refine yo0 ?_ ?_ | refine yw0 ?_ ?_ | exact qq | fail)
        refine pcond (b := decide (d < (mget m b).getD 0)) rfl ?_ ?_ <;> intro hd
        · have hG2 : nxtG m b (lF 0 (sget L at_) j) = lF 0 (sget L at_) j := by unfold nxtG; rw [hm]; exact if_pos (.inr (of_decide_eq_true hd))
          repeat' (first | refine yo ?_ ?_ | refine yw ?_ ?_ | refine yk ?_ ?_ | exact trivial | with_reducible refine wA ?_ ?_ | refine ys ?_ ?_ | refine xs_done ?_ | refine yl ?_ ?_ | refine w8 ?_ | refine w9 ?_ | refine w1 ?_ | refine w2 ?_ | refine w3 ?_ | refine w4 ?_ | refine w5 ?_ | refine w6 ?_ | refine w7 ?_ | refine yo0 ?_ ?_ | refine yw0 ?_ ?_ | exact qq | fail)
          rw [hw1]
          exact kloop_next (st' := ⟨[(1, vi start), (2, .ptr 0 0 0), (5, .mref 1), (6, slP (k + 1) 2), (8, vi (lF 0 (sget L at_) j)), (24, sV (sget L at_)), (25, vi (sget L at_).length), (26, vi ((j + 1 : Nat) : Int))], [cG (sV N) (.vmap (cS L)), mRow kI m, vRow c1 1 (k + 1) (lF 0 (out ++ [at_]))]⟩) ((sget L at_).length - (j + 1)) (can_rowsv [0, 1, 2] (k0_sel hk rfl) rfl (.cons rfl (cG_eq (PEq.refl _) (PEq.refl _)) (.cons rfl m_eq (.cons rfl (RowEq.cl (v_cl c1_cl _ _ _)) .nil))) tmq) (by omega) ⟨j + 1, _, by omega, by rw [hG, hG2], rfl, rfl⟩
        · have hG2 : nxtG m b (lF 0 (sget L at_) j) = b := by unfold nxtG; rw [hm]; exact if_neg (fun h => h.elim hb0 (of_decide_eq_false hd))
          repeat' (first | refine yo ?_ ?_ | refine yw ?_ ?_ | refine yk ?_ ?_ | exact trivial | with_reducible refine wA ?_ ?_ | refine ys ?_ ?_ | refine xs_done ?_ | refine yl ?_ ?_ | refine w8 ?_ | refine w9 ?_ | refine w1 ?_ | refine w2 ?_ | refine w3 ?_ | refine w4 ?_ | refine w5 ?_ | refine w6 ?_ | refine w7 ?_ | refine yo0 ?_ ?_ | refine yw0 ?_ ?_ | exact qq | fail)
          rw [hw1]
          exact kloop_next (st' := ⟨[(1, vi start), (2, .ptr 0 0 0), (5, .mref 1), (6, slP (k + 1) 2), (8, vi b), (24, sV (sget L at_)), (25, vi (sget L at_).length), (26, vi ((j + 1 : Nat) : Int))], [cG (sV N) (.vmap (cS L)), mRow kI m, vRow c1 1 (k + 1) (lF 0 (out ++ [at_]))]⟩) ((sget L at_).length - (j + 1)) (can_rowsv [0, 1, 2] (k0_sel hk rfl) rfl (.cons rfl (cG_eq (PEq.refl _) (PEq.refl _)) (.cons rfl m_eq (.cons rfl (RowEq.cl (v_cl c1_cl _ _ _)) .nil))) tmq) (by omega) ⟨j + 1, _, by omega, by rw [hG, hG2], rfl, rfl⟩
  · have hjl : j = (sget L at_).length := by have := of_decide_eq_false hc; omega
    subst hjl
    have hok := nxtF_ok m (sget L at_) (hL0 at_) (sget L at_).length
    rw [← hb, List.take_length] at hok
    rw [List.take_length] at hb
    obtain ⟨f, rfl⟩ : ∃ f', f = f' + 1 := ⟨f - 1, by omega⟩
    rw [cycF, ← hb] at hcy
    repeat' (first | refine yo ?_ ?_ | refine yw ?_ ?_ | refine yk ?_ ?_ | exact trivial | with_reducible refine wA ?_ ?_ | refine ys ?_ ?_ | refine xs_done ?_ | refine yl ?_ ?_ | refine w8 ?_ | refine w9 ?_ | refine w1 ?_ | refine w2 ?_ | refine w3 ?_ | refine w4 ?_ | refine w5 ?_ | refine w6 ?_ | refine w7 ?_ | refine yo0 ?_ ?_ | refine yw0 ?_ ?_ | exact qq | fail)
    refine pcond rfl ?_ ?_ <;> intro hb0
    · have hb0 := of_decide_eq_true hb0
      rw [if_pos hb0] at hcy
      repeat' (first | refine yo ?_ ?_ | refine yw ?_ ?_ | refine yk ?_ ?_ | exact trivial | with_reducible refine wA ?_ ?_ | refine ys ?_ ?_ | refine xs_done ?_ | refine yl ?_ ?_ | refine w8 ?_ | refine w9 ?_ | refine w1 ?_ | refine w2 ?_ | refine w3 ?_ | refine w4 ?_ | refine w5 ?_ | refine w6 ?_ | refine w7 ?_ | refine yo0 ?_ ?_ | refine yw0 ?_ ?_ | exact qq | fail)
      refine xdone ?_
      refine kblock_ret (kloop_ret (kblock_ret ?_))
      refine kret [] rfl ⟨trivial, trivial⟩ (qs := [.val (.slice none 0 0)]) ⟨argVal, trivial⟩ ?_
      rw [hcy]; rfl
    · have hb0 := of_decide_eq_false hb0
      rw [if_neg hb0] at hcy
      repeat' (first | refine yo ?_ ?_ | refine yw ?_ ?_ | refine yk ?_ ?_ | exact trivial | with_reducible refine wA ?_ ?_ | refine ys ?_ ?_ | refine xs_done ?_ | refine yl ?_ ?_ | refine w8 ?_ | refine w9 ?_ | refine w1 ?_ | refine w2 ?_ | refine w3 ?_ | refine w4 ?_ | refine w5 ?_ | refine w6 ?_ | refine w7 ?_ | refine yo0 ?_ ?_ | refine yw0 ?_ ?_ | exact qq | fail)
      refine pcond (b := decide (b = start)) (eqB (by rw [Bool.eq_iff_iff]; simp)) ?_ ?_ <;> intro hbs
      · have hbs := of_decide_eq_true hbs
        rw [if_pos hbs] at hcy
        repeat' (first | refine yo ?_ ?_ | refine yw ?_ ?_ | refine yk ?_ ?_ | exact trivial | with_reducible refine wA ?_ ?_ | refine ys ?_ ?_ | refine xs_done ?_ | refine yl ?_ ?_ | refine w8 ?_ | refine w9 ?_ | refine w1 ?_ | refine w2 ?_ | refine w3 ?_ | refine w4 ?_ | refine w5 ?_ | refine w6 ?_ | refine w7 ?_ | refine yo0 ?_ ?_ | refine yw0 ?_ ?_ | exact qq | fail)
        refine xdone ?_
        refine kblock_ret (kloop_ret (kblock_ret ?_))
        refine kret [2] rfl ⟨trivial, trivial⟩ (qs := [.vsl (k + 1) 1 (tI (lF 0 (out ++ [at_])))]) ⟨argTI (arg_v (n := k + 1) (l := 2) c1_cl rfl (List.Mem.head _)), trivial⟩ ?_
        rw [hcy, cycR_snoc]
        show PV.vsl (k + 1) 1 _ = .vsl (out ++ [at_]).length 1 _
        rw [List.length_append, hk2]; rfl
      · have hbs := of_decide_eq_false hbs
        rw [if_neg hbs] at hcy
        obtain ⟨d, hd1, hd2, hd3⟩ : ∃ d, mget m b = some d ∧ 0 < d ∧ d.toNat < q := by
          rcases hok with ⟨e, _⟩ | ⟨e0, e1, d, e2, e3⟩
          · omega
          · have h1 := hpos b d e2
            have h2 : 0 < d := by
              by_cases e : d = 0
              · exact absurd (hzero b (e ▸ e2)) hbs
              · omega
            refine ⟨d, e2, h2, ?_⟩
            rcases hq with ⟨_, _, hq⟩ | ⟨d0, hd0, hd0p, hq⟩
            · omega
            · obtain ⟨y, hy1, hy2⟩ := (hpos at_ d0 hd0).2.2 hd0p
              have := e3 y hy1 _ hy2
              omega
        repeat' (first | refine yo ?_ ?_ | refine yw ?_ ?_ | refine yk ?_ ?_ | exact trivial | with_reducible refine wA ?_ ?_ | refine ys ?_ ?_ | refine xs_done ?_ | refine yl ?_ ?_ | refine w8 ?_ | refine w9 ?_ | refine w1 ?_ | refine w2 ?_ | refine w3 ?_ | refine w4 ?_ | refine w5 ?_ | refine w6 ?_ | refine w7 ?_ | refine yo0 ?_ ?_ | refine yw0 ?_ ?_ | exact qq | fail)
        refine xdone ?_
        refine kblock_normal ?_
        exact kloop_next (st' := ⟨[(1, vi start), (2, .ptr 0 0 0), (5, .mref 1), (6, slP (k + 1) 2), (7, vi b)], [cG (sV N) (.vmap (cS L)), mRow kI m, vRow c1 1 (k + 1) (lF 0 (out ++ [at_]))]⟩) d.toNat (can_rowsv [0, 1, 2] (k0_sel hk rfl) rfl (.cons rfl (cG_eq (PEq.refl _) (PEq.refl _)) (.cons rfl m_eq (.cons rfl (RowEq.cl (v_cl c1_cl _ _ _)) .nil))) tmq) hd3 ⟨k + 1, f, b, out ++ [at_], by rw [List.length_append, hk2]; rfl, by omega, by omega, hcy, .inr ⟨d, hd1, hd2, rfl⟩, rfl⟩
end Go.Proofs.Ytcefhgomkehokaa
namespace Go.Proofs.Ytcefhgomkehokaa
open Go.MapKept
theorem pop_gfB {G : Pg2} {N : Nat} {Γ : Fr} {st : PSt} {K : Exit → PSt → Prop} {ops : Array Oper} {o : Oper} {rest : List Oper} {d j : Nat} {want : Bool} (hg : o.guard = some (j, want)) (hd : o.dst = some d) (hN : Nat.blt d N = true) (hgv : gval ops st j want = some false) (h : POps G.toPg N Γ ops rest (st.put d (.opt false (vb false))) K) : POps G.toPg N Γ ops (o :: rest) st K := .mk fun ρ I a w hrel => by
  have hw := gval_sound hrel hg hgv
  simp only [wpList, hw, Bool.false_eq_true, if_false, hd]
  exact h.go ρ I _ w (hrel.put (by rwa [Nat.blt_eq] at hN) ⟨by simp, fun _ => rfl⟩)
def nilV : PV → Option Bool
  | .vsl (_ + 1) _ _ => some false
  | .lsl _ _ (_ + 1) => some false
  | .val (.slice none 0 0) => some true
  | _ => none
theorem nilV_rel {p : PV} {b : Bool} {k : Nat} {ρ : Nat → Loc} {I : Nat → Prop} {w : World} {v : Value} (h : nilV p = some b) (hv : VRel k ρ I w p v) : ∃ a n cap, v = .slice a n cap ∧ a.isNone = b := by
  unfold nilV at h
  split at h
  · injection h with h
    obtain ⟨a, cap, rfl, h3⟩ := slLen_rel rfl hv
    rcases h3 (Nat.succ_pos _) with ⟨x, rfl⟩ | ⟨c, hc⟩
    · exact ⟨_, _, _, rfl, h⟩
    · cases hc
  · injection h with h
    obtain ⟨a, cap, rfl, h3⟩ := slLen_rel rfl hv
    rcases h3 (Nat.succ_pos _) with ⟨x, rfl⟩ | ⟨c, hc⟩
    · exact ⟨_, _, _, rfl, h⟩
    · cases hc
  · injection h with h
    have hv : v = .slice none 0 0 := hv
    exact ⟨none, 0, 0, hv, h⟩
  · cases h
section
variable {G : Pg} {N : Nat} {Γ : Fr} {st : PSt} {K : Exit → PSt → Prop} {ops : Array Oper} {o : Oper} {rest : List Oper} {d : Nat}
theorem pop_nilE {t t' e : Nat} {x : Operand} (b : Bool) (hg : o.guard = none) (hd : o.dst = some d) (hN : Nat.blt d N = true) (ho : o.op = .binOp .eql t x (.const (.slice none 0 0)) t') (hk : (tget G.tab t).k = .slice e) (hl : nilV (st.ev x) = some b)
    (h : POps G N Γ ops rest (st.put d (vb b)) K) : POps G N Γ ops (o :: rest) st K := .mk fun ρ I a w hrel => by
  have hw : Region.wanted o (yielded ops a.tmps) = true := by simp [Region.wanted, hg]
  simp only [wpList, hw, if_true]
  refine .inl ?_
  obtain ⟨ad, n, cap, hv, hn⟩ := nilV_rel hl (ev_rel hrel x)
  have hu := tab_slice G.ok hk
  have hrun : (execOp a.eval o).run G.P w = .ok (.value (.bool ad.isNone)) w := by
    have hc : a.eval (.const (.slice none 0 0)) = .slice none 0 0 := rfl
    have hb : (binOp .eql t (.slice ad n cap) (.slice none 0 0)).run G.P w = .ok (.bool ad.isNone) w := by
      show (do pure (Value.bool (← Op.equal t (.slice ad n cap) (.slice none 0 0))) : Sem Value).run G.P w = _
      simp only [Sem.run_bind, run_equal_slice_nil w t e ad n cap hu, Result.andThen_ok, Sem.run_pure]
    simp only [execOp, ho, hv, hc, Sem.run_bind, eqGuard_plain .eql t x (.const (.slice none 0 0)) (.slice ad n cap) (.slice none 0 0) w (by simp) (by simp), hb, Result.andThen_ok, Sem.run_pure]
  simp only [Oper.wp, hrun, Oper.upon_value, hd]
  rw [hn]
  exact h.go ρ I _ w (hrel.put (by rwa [Nat.blt_eq] at hN) rfl)
theorem pop_nilN {t t' e : Nat} {x : Operand} (b : Bool) (hg : o.guard = none) (hd : o.dst = some d) (hN : Nat.blt d N = true) (ho : o.op = .binOp .neq t x (.const (.slice none 0 0)) t') (hk : (tget G.tab t).k = .slice e) (hl : nilV (st.ev x) = some b)
    (h : POps G N Γ ops rest (st.put d (vb (!b))) K) : POps G N Γ ops (o :: rest) st K := .mk fun ρ I a w hrel => by
  have hw : Region.wanted o (yielded ops a.tmps) = true := by simp [Region.wanted, hg]
  simp only [wpList, hw, if_true]
  refine .inl ?_
  obtain ⟨ad, n, cap, hv, hn⟩ := nilV_rel hl (ev_rel hrel x)
  have hu := tab_slice G.ok hk
  have hrun : (execOp a.eval o).run G.P w = .ok (.value (.bool (!ad.isNone))) w := by
    have hc : a.eval (.const (.slice none 0 0)) = .slice none 0 0 := rfl
    have hb : (binOp .neq t (.slice ad n cap) (.slice none 0 0)).run G.P w = .ok (.bool (!ad.isNone)) w := by
      show (do pure (Value.bool (!(← Op.equal t (.slice ad n cap) (.slice none 0 0)))) : Sem Value).run G.P w = _
      simp only [Sem.run_bind, run_equal_slice_nil w t e ad n cap hu, Result.andThen_ok, Sem.run_pure]
    simp only [execOp, ho, hv, hc, Sem.run_bind, eqGuard_plain .neq t x (.const (.slice none 0 0)) (.slice ad n cap) (.slice none 0 0) w (by simp) (by simp), hb, Result.andThen_ok, Sem.run_pure]
  simp only [Oper.wp, hrun, Oper.upon_value, hd]
  rw [hn]
  exact h.go ρ I _ w (hrel.put (by rwa [Nat.blt_eq] at hN) rfl)
end
theorem cycR_cl : ∀ c, Cl (cycR c)
  | [] => trivial
  | _ :: _ => trivial
def bstG (b c : List Int) : List Int := if c ≠ [] ∧ (b = [] ∨ c.length < b.length) then c else b
def bstF (N : List Int) (L : List (Int × List Int)) (A : List Int) : List Int := A.foldl (fun b x => bstG b (cycS N L x)) []
theorem bstF_snoc {N : List Int} {L : List (Int × List Int)} {A : List Int} {x : Int} : bstF N L (A ++ [x]) = bstG (bstF N L A) (cycS N L x) := by
  unfold bstF; rw [List.foldl_append]; rfl
def CycS (nm : ByteArray) (l : List Df) (day : Int) : List Int := if gErr nm l day ≠ 0 then [] else bstF (nodS l day) (mapS l day) (nodS l day)
theorem sget_map {f : Int → List Int} {ns : List Int} {x y : Int} (h : y ∈ sget (ns.map fun x => (x, f x)) x) : x ∈ ns ∧ y ∈ f x := by
  unfold sget at h
  split at h
  · rename_i e he
    have h1 := List.mem_of_find?_eq_some he
    have h2 := List.find?_some he
    obtain ⟨z, hz, rfl⟩ := List.mem_map.1 h1
    have h2 : z = x := by simpa using h2
    subst h2
    exact ⟨hz, h⟩
  · cases h
theorem needS_mem {l : List Df} {act : List Int} {i : Nat} {y : Int} (h : y ∈ (needS l act i).1) : y ∈ act := by
  unfold needS at h
  split at h
  · exact (List.mem_filter.1 h).1
  · cases h
theorem mapS_pos (l : List Df) (day : Int) : ∀ x y, y ∈ sget (mapS l day) x → 0 ≤ y := fun x y h => (actL_in y (needS_mem (sget_map h).2)).1
set_option maxHeartbeats 8000000 in
theorem Cycle_c (nm : ByteArray) (l : List Df) (day : Int) (h : AgO nm l) (hl : l.length ≤ 900000) : PureC G.P 28 [vA nm l, vi day] (fun r => r = cycR (CycS nm l day)) := by
  by_cases he : gErr nm l day = 0
  · have cg := newGraph_c0 nm l day h (by omega) he
    have hNl := nodS_len l day
    have cy := fun x => cycle_c (nodS l day) (mapS l day) x (by omega) (fun e he => Nat.le_trans (mapS_len l day e he) (by omega)) (mapS_pos l day)
    have hX : CycS nm l day = bstF (nodS l day) (mapS l day) (nodS l day) := by unfold CycS; rw [if_neg (fun hh => hh he)]
    rw [hX]
    generalize nodS l day = N at *
    generalize mapS l day = L at *
    refine pure_of (G := G.toPg) (fn := Try.f28) Try.func28 rfl rfl rfl ?_; intro Γ hk
    repeat' (first | refine yo ?_ ?_ | refine yw ?_ ?_ | refine yk ?_ ?_ | exact trivial | with_reducible refine wA ?_ ?_ | refine ys ?_ ?_ | refine xs_done ?_ | refine yl ?_ ?_ | (refine pop_callc [] rfl rfl rfl rfl rfl rfl (fun _ h => by cases h) (cg) (args_cl _ rfl) ?_; rintro _ rfl) | refine w8 ?_ | refine w9 ?_ | refine w1 ?_ | refine w2 ?_ | refine w3 ?_ | refine w4 ?_ | refine w5 ?_ | refine w6 ?_ | refine w7 ?_ | refine yo0 ?_ ?_ | refine yw0 ?_ ?_ | exact qq | fail)
    refine pcan (st' := ⟨[(5, .ptr 0 0 0), (7, cycR []), (20, sV N), (21, vi N.length), (22, vi ((0 : Nat) : Int))], [cG (sV N) (.vmap (cS L))]⟩) (can_rowsv [1] (k0_sel hk rfl) rfl (.cons rfl (cG_eq (PEq.refl _) (PEq.refl _)) .nil) tmq) ?_
    refine ploop (fun q st => ∃ (i : Nat) (b : List Int), i ≤ N.length ∧ b = bstF N L (N.take i) ∧ q = N.length - i ∧ st = ⟨[(5, .ptr 0 0 0), (7, cycR b), (20, sV N), (21, vi N.length), (22, vi i)], [cG (sV N) (.vmap (cS L))]⟩) N.length ⟨0, [], Nat.zero_le _, by rw [List.take_zero]; rfl, rfl, rfl⟩ ?_
    rintro _ _ ⟨i, b, hi, hb, rfl, rfl⟩
    have hw1 : IntKind.i64.wrap ((i : Int) + 1) = ((i + 1 : Nat) : Int) := w64 (by omega) (by omega)
    repeat' (first | refine yo ?_ ?_ | refine yw ?_ ?_ | refine yk ?_ ?_ | exact trivial | with_reducible refine wA ?_ ?_ | refine ys ?_ ?_ | refine xs_done ?_ | refine yl ?_ ?_ | refine w8 ?_ | refine w9 ?_ | refine w1 ?_ | refine w2 ?_ | refine w3 ?_ | refine w4 ?_ | refine w5 ?_ | refine w6 ?_ | refine w7 ?_ | refine yo0 ?_ ?_ | refine yw0 ?_ ?_ | exact qq | fail)
    refine pcond rfl ?_ ?_ <;> intro hc
    · have hc : i < N.length := by have := of_decide_eq_true hc; omega
      have hT : N.take (i + 1) = N.take i ++ [lF 0 N i] := by
        unfold lF
        rw [List.take_add_one, List.getD_eq_getElem?_getD, List.getElem?_eq_getElem (by omega)]; rfl
      have hG : bstF N L (N.take (i + 1)) = bstG b (cycS N L (lF 0 N i)) := by rw [hT, bstF_snoc, ← hb]
      have cy1 := cy (lF 0 N i)
      generalize hcy : cycS N L (lF 0 N i) = c at cy1 hG
      cases c with
      | nil =>
        cases b with
        | nil =>
          repeat' (first | refine yo ?_ ?_ | refine yw ?_ ?_ | refine yk ?_ ?_ | exact trivial | with_reducible refine wA ?_ ?_ | refine ys ?_ ?_ | refine xs_done ?_ | refine yl ?_ ?_ | (refine pop_callc [] rfl rfl rfl rfl rfl rfl (fun _ h => by cases h) (cy1) (args_cl _ rfl) ?_; rintro _ rfl) | refine w8 ?_ | refine w9 ?_ | refine w1 ?_ | refine w2 ?_ | refine w3 ?_ | refine w4 ?_ | refine w5 ?_ | refine w6 ?_ | refine w7 ?_ | refine yo0 ?_ ?_ | refine yw0 ?_ ?_ | exact qq | fail)
          refine pop_nilN true rfl rfl rfl rfl rfl rfl ?_
          repeat' (first | refine yo ?_ ?_ | refine yw ?_ ?_ | refine yk ?_ ?_ | exact trivial | with_reducible refine wA ?_ ?_ | refine ys ?_ ?_ | refine xs_done ?_ | refine yl ?_ ?_ | refine w8 ?_ | refine w9 ?_ | refine w1 ?_ | refine w2 ?_ | refine w3 ?_ | refine w4 ?_ | refine w5 ?_ | refine w6 ?_ | refine w7 ?_ | refine yo0 ?_ ?_ | refine yw0 ?_ ?_ | exact qq | fail)
          refine pop_gfB rfl rfl rfl rfl ?_
          repeat' (first | refine yo ?_ ?_ | refine yw ?_ ?_ | refine yk ?_ ?_ | exact trivial | with_reducible refine wA ?_ ?_ | refine ys ?_ ?_ | refine xs_done ?_ | refine yl ?_ ?_ | (refine pop_gfalse rfl rfl rfl rfl ?_) | (intro hh; cases hh; done) | (intro _; exact ⟨rfl, trivial⟩) | (exact ⟨rfl, trivial⟩) | refine w8 ?_ | refine w9 ?_ | refine w1 ?_ | refine w2 ?_ | refine w3 ?_ | refine w4 ?_ | refine w5 ?_ | refine w6 ?_ | refine w7 ?_ | refine yo0 ?_ ?_ | refine yw0 ?_ ?_ | exact qq | fail)
          rw [hw1]
          exact kloop_next (st' := ⟨[(5, .ptr 0 0 0), (7, cycR []), (20, sV N), (21, vi N.length), (22, vi ((i + 1 : Nat) : Int))], [cG (sV N) (.vmap (cS L))]⟩) (N.length - (i + 1)) (can_rowsv [0] (k0_sel hk rfl) rfl (.cons rfl (cG_eq (PEq.refl _) (PEq.refl _)) .nil) (by exact ⟨PEq.refl _, PEq.cl _ (cycR_cl []), PEq.refl _, PEq.refl _, PEq.refl _, trivial⟩)) (by omega) ⟨i + 1, _, by omega, by rw [hG]; unfold bstG; rw [if_neg (fun hh => hh.1 rfl)], rfl, rfl⟩
        | cons a2 b =>
          repeat' (first | refine yo ?_ ?_ | refine yw ?_ ?_ | refine yk ?_ ?_ | exact trivial | with_reducible refine wA ?_ ?_ | refine ys ?_ ?_ | refine xs_done ?_ | refine yl ?_ ?_ | (refine pop_callc [] rfl rfl rfl rfl rfl rfl (fun _ h => by cases h) (cy1) (args_cl _ rfl) ?_; rintro _ rfl) | refine w8 ?_ | refine w9 ?_ | refine w1 ?_ | refine w2 ?_ | refine w3 ?_ | refine w4 ?_ | refine w5 ?_ | refine w6 ?_ | refine w7 ?_ | refine yo0 ?_ ?_ | refine yw0 ?_ ?_ | exact qq | fail)
          refine pop_nilN true rfl rfl rfl rfl rfl rfl ?_
          repeat' (first | refine yo ?_ ?_ | refine yw ?_ ?_ | refine yk ?_ ?_ | exact trivial | with_reducible refine wA ?_ ?_ | refine ys ?_ ?_ | refine xs_done ?_ | refine yl ?_ ?_ | refine w8 ?_ | refine w9 ?_ | refine w1 ?_ | refine w2 ?_ | refine w3 ?_ | refine w4 ?_ | refine w5 ?_ | refine w6 ?_ | refine w7 ?_ | refine yo0 ?_ ?_ | refine yw0 ?_ ?_ | exact qq | fail)
          refine pop_gfB rfl rfl rfl rfl ?_
          repeat' (first | refine yo ?_ ?_ | refine yw ?_ ?_ | refine yk ?_ ?_ | exact trivial | with_reducible refine wA ?_ ?_ | refine ys ?_ ?_ | refine xs_done ?_ | refine yl ?_ ?_ | (refine pop_gfalse rfl rfl rfl rfl ?_) | (intro hh; cases hh; done) | (intro _; exact ⟨rfl, trivial⟩) | (exact ⟨rfl, trivial⟩) | refine w8 ?_ | refine w9 ?_ | refine w1 ?_ | refine w2 ?_ | refine w3 ?_ | refine w4 ?_ | refine w5 ?_ | refine w6 ?_ | refine w7 ?_ | refine yo0 ?_ ?_ | refine yw0 ?_ ?_ | exact qq | fail)
          rw [hw1]
          exact kloop_next (st' := ⟨[(5, .ptr 0 0 0), (7, cycR (a2 :: b)), (20, sV N), (21, vi N.length), (22, vi ((i + 1 : Nat) : Int))], [cG (sV N) (.vmap (cS L))]⟩) (N.length - (i + 1)) (can_rowsv [0] (k0_sel hk rfl) rfl (.cons rfl (cG_eq (PEq.refl _) (PEq.refl _)) .nil) (by exact ⟨PEq.refl _, PEq.cl _ (cycR_cl (a2 :: b)), PEq.refl _, PEq.refl _, PEq.refl _, trivial⟩)) (by omega) ⟨i + 1, _, by omega, by rw [hG]; unfold bstG; rw [if_neg (fun hh => hh.1 rfl)], rfl, rfl⟩
      | cons a c =>
        cases b with
        | nil =>
          repeat' (first | refine yo ?_ ?_ | refine yw ?_ ?_ | refine yk ?_ ?_ | exact trivial | with_reducible refine wA ?_ ?_ | refine ys ?_ ?_ | refine xs_done ?_ | refine yl ?_ ?_ | (refine pop_callc [] rfl rfl rfl rfl rfl rfl (fun _ h => by cases h) (cy1) (args_cl _ rfl) ?_; rintro _ rfl) | refine w8 ?_ | refine w9 ?_ | refine w1 ?_ | refine w2 ?_ | refine w3 ?_ | refine w4 ?_ | refine w5 ?_ | refine w6 ?_ | refine w7 ?_ | refine yo0 ?_ ?_ | refine yw0 ?_ ?_ | exact qq | fail)
          refine pop_nilN false rfl rfl rfl rfl rfl rfl ?_
          repeat' (first | refine yo ?_ ?_ | refine yw ?_ ?_ | refine yk ?_ ?_ | exact trivial | with_reducible refine wA ?_ ?_ | refine ys ?_ ?_ | refine xs_done ?_ | refine yl ?_ ?_ | refine w8 ?_ | refine w9 ?_ | refine w1 ?_ | refine w2 ?_ | refine w3 ?_ | refine w4 ?_ | refine w5 ?_ | refine w6 ?_ | refine w7 ?_ | refine yo0 ?_ ?_ | refine yw0 ?_ ?_ | exact qq | fail)
          refine pop_opt 32 rfl rfl ?_
          refine pop_unguard rfl rfl ?_
          refine pop_nilE true rfl rfl rfl rfl rfl rfl ?_
          repeat' (first | refine yo ?_ ?_ | refine yw ?_ ?_ | refine yk ?_ ?_ | exact trivial | with_reducible refine wA ?_ ?_ | refine ys ?_ ?_ | refine xs_done ?_ | refine yl ?_ ?_ | (refine pop_gfalse rfl rfl rfl rfl ?_) | (intro hh; cases hh; done) | (intro _; exact ⟨rfl, trivial⟩) | (exact ⟨rfl, trivial⟩) | refine w8 ?_ | refine w9 ?_ | refine w1 ?_ | refine w2 ?_ | refine w3 ?_ | refine w4 ?_ | refine w5 ?_ | refine w6 ?_ | refine w7 ?_ | refine yo0 ?_ ?_ | refine yw0 ?_ ?_ | exact qq | fail)
          rw [hw1]
          exact kloop_next (st' := ⟨[(5, .ptr 0 0 0), (7, cycR (a :: c)), (20, sV N), (21, vi N.length), (22, vi ((i + 1 : Nat) : Int))], [cG (sV N) (.vmap (cS L))]⟩) (N.length - (i + 1)) (can_rowsv [0] (k0_sel hk rfl) rfl (.cons rfl (cG_eq (PEq.refl _) (PEq.refl _)) .nil) tmq) (by omega) ⟨i + 1, _, by omega, by rw [hG]; unfold bstG; rw [if_pos ⟨by simp, .inl rfl⟩], rfl, rfl⟩
        | cons a2 b =>
          repeat' (first | refine yo ?_ ?_ | refine yw ?_ ?_ | refine yk ?_ ?_ | exact trivial | with_reducible refine wA ?_ ?_ | refine ys ?_ ?_ | refine xs_done ?_ | refine yl ?_ ?_ | (refine pop_callc [] rfl rfl rfl rfl rfl rfl (fun _ h => by cases h) (cy1) (args_cl _ rfl) ?_; rintro _ rfl) | refine w8 ?_ | refine w9 ?_ | refine w1 ?_ | refine w2 ?_ | refine w3 ?_ | refine w4 ?_ | refine w5 ?_ | refine w6 ?_ | refine w7 ?_ | refine yo0 ?_ ?_ | refine yw0 ?_ ?_ | exact qq | fail)
          refine pop_nilN false rfl rfl rfl rfl rfl rfl ?_
          repeat' (first | refine yo ?_ ?_ | refine yw ?_ ?_ | refine yk ?_ ?_ | exact trivial | with_reducible refine wA ?_ ?_ | refine ys ?_ ?_ | refine xs_done ?_ | refine yl ?_ ?_ | refine w8 ?_ | refine w9 ?_ | refine w1 ?_ | refine w2 ?_ | refine w3 ?_ | refine w4 ?_ | refine w5 ?_ | refine w6 ?_ | refine w7 ?_ | refine yo0 ?_ ?_ | refine yw0 ?_ ?_ | exact qq | fail)
          refine pop_opt 32 rfl rfl ?_
          refine pop_unguard rfl rfl ?_
          refine pop_nilE false rfl rfl rfl rfl rfl rfl ?_
          repeat' (first | refine yo ?_ ?_ | refine yw ?_ ?_ | refine yk ?_ ?_ | exact trivial | with_reducible refine wA ?_ ?_ | refine ys ?_ ?_ | refine xs_done ?_ | refine yl ?_ ?_ | refine w8 ?_ | refine w9 ?_ | refine w1 ?_ | refine w2 ?_ | refine w3 ?_ | refine w4 ?_ | refine w5 ?_ | refine w6 ?_ | refine w7 ?_ | refine yo0 ?_ ?_ | refine yw0 ?_ ?_ | exact qq | fail)
          refine pcond (b := decide ((a :: c).length < (a2 :: b).length)) (eqB (by rw [Bool.eq_iff_iff]; simp)) ?_ ?_ <;> intro hd
          · have hd := of_decide_eq_true hd
            repeat' (first | refine yo ?_ ?_ | refine yw ?_ ?_ | refine yk ?_ ?_ | exact trivial | with_reducible refine wA ?_ ?_ | refine ys ?_ ?_ | refine xs_done ?_ | refine yl ?_ ?_ | refine w8 ?_ | refine w9 ?_ | refine w1 ?_ | refine w2 ?_ | refine w3 ?_ | refine w4 ?_ | refine w5 ?_ | refine w6 ?_ | refine w7 ?_ | refine yo0 ?_ ?_ | refine yw0 ?_ ?_ | exact qq | fail)
            rw [hw1]
            exact kloop_next (st' := ⟨[(5, .ptr 0 0 0), (7, cycR (a :: c)), (20, sV N), (21, vi N.length), (22, vi ((i + 1 : Nat) : Int))], [cG (sV N) (.vmap (cS L))]⟩) (N.length - (i + 1)) (can_rowsv [0] (k0_sel hk rfl) rfl (.cons rfl (cG_eq (PEq.refl _) (PEq.refl _)) .nil) tmq) (by omega) ⟨i + 1, _, by omega, by rw [hG]; unfold bstG; rw [if_pos ⟨by simp, .inr hd⟩], rfl, rfl⟩
          · have hd := of_decide_eq_false hd
            repeat' (first | refine yo ?_ ?_ | refine yw ?_ ?_ | refine yk ?_ ?_ | exact trivial | with_reducible refine wA ?_ ?_ | refine ys ?_ ?_ | refine xs_done ?_ | refine yl ?_ ?_ | refine w8 ?_ | refine w9 ?_ | refine w1 ?_ | refine w2 ?_ | refine w3 ?_ | refine w4 ?_ | refine w5 ?_ | refine w6 ?_ | refine w7 ?_ | refine yo0 ?_ ?_ | refine yw0 ?_ ?_ | exact qq | fail)
            rw [hw1]
            exact kloop_next (st' := ⟨[(5, .ptr 0 0 0), (7, cycR (a2 :: b)), (20, sV N), (21, vi N.length), (22, vi ((i + 1 : Nat) : Int))], [cG (sV N) (.vmap (cS L))]⟩) (N.length - (i + 1)) (can_rowsv [0] (k0_sel hk rfl) rfl (.cons rfl (cG_eq (PEq.refl _) (PEq.refl _)) .nil) tmq) (by omega) ⟨i + 1, _, by omega, by rw [hG]; unfold bstG; rw [if_neg (fun hh => hh.2.elim (by simp) hd)], rfl, rfl⟩
    · have hil : i = N.length := by have := of_decide_eq_false hc; omega
      subst hil
      rw [List.take_length] at hb
      cases b with
      | nil =>
        repeat' (first | refine yo ?_ ?_ | refine yw ?_ ?_ | refine yk ?_ ?_ | exact trivial | with_reducible refine wA ?_ ?_ | refine ys ?_ ?_ | refine xs_done ?_ | refine yl ?_ ?_ | refine w8 ?_ | refine w9 ?_ | refine w1 ?_ | refine w2 ?_ | refine w3 ?_ | refine w4 ?_ | refine w5 ?_ | refine w6 ?_ | refine w7 ?_ | refine yo0 ?_ ?_ | refine yw0 ?_ ?_ | exact qq | fail)
        refine kretv rfl ⟨trivial, trivial⟩ rfl ?_
        rw [← hb]; rfl
      | cons a2 b =>
        repeat' (first | refine yo ?_ ?_ | refine yw ?_ ?_ | refine yk ?_ ?_ | exact trivial | with_reducible refine wA ?_ ?_ | refine ys ?_ ?_ | refine xs_done ?_ | refine yl ?_ ?_ | refine w8 ?_ | refine w9 ?_ | refine w1 ?_ | refine w2 ?_ | refine w3 ?_ | refine w4 ?_ | refine w5 ?_ | refine w6 ?_ | refine w7 ?_ | refine yo0 ?_ ?_ | refine yw0 ?_ ?_ | exact qq | fail)
        refine kretv rfl ⟨trivial, trivial⟩ rfl ?_
        rw [← hb]; rfl
  · have cg := newGraph_c1 nm l day h (by omega) he
    refine pure_of (G := G.toPg) (fn := Try.f28) Try.func28 rfl rfl rfl ?_; intro Γ hk
    repeat' (first | refine yo ?_ ?_ | refine yw ?_ ?_ | refine yk ?_ ?_ | exact trivial | with_reducible refine wA ?_ ?_ | refine ys ?_ ?_ | refine xs_done ?_ | refine yl ?_ ?_ | (refine pop_callc [] rfl rfl rfl rfl rfl rfl (fun _ h => by cases h) (cg) (args_cl _ rfl) ?_; rintro _ rfl) | refine w8 ?_ | refine w9 ?_ | refine w1 ?_ | refine w2 ?_ | refine w3 ?_ | refine w4 ?_ | refine w5 ?_ | refine w6 ?_ | refine w7 ?_ | refine yo0 ?_ ?_ | refine yw0 ?_ ?_ | exact qq | fail)
    refine pcond (b := true) (eqB (by simpa using he)) ?_ ?_ <;> intro h1
    · repeat' (first | refine yo ?_ ?_ | refine yw ?_ ?_ | refine yk ?_ ?_ | exact trivial | with_reducible refine wA ?_ ?_ | refine ys ?_ ?_ | refine xs_done ?_ | refine yl ?_ ?_ | refine w8 ?_ | refine w9 ?_ | refine w1 ?_ | refine w2 ?_ | refine w3 ?_ | refine w4 ?_ | refine w5 ?_ | refine w6 ?_ | refine w7 ?_ | refine yo0 ?_ ?_ | refine yw0 ?_ ?_ | exact qq | fail)
      refine kretv rfl ⟨trivial, trivial⟩ rfl ?_
      unfold CycS; rw [if_pos he]; rfl
    · cases h1
end Go.Proofs.Ytcefhgomkehokaa
namespace Go.Proofs.Ytcefhgomkehokaa
structure PrdE (F : FuncId) (c : Nat → PV) (p : Ex → Bool) : Prop where
  c0 : Cl (c 0)
  run : ∀ x, PureC G.P F [vX x, c 0] (fun r => r = vb (p x))
theorem PrdE.cl {F : FuncId} {c : Nat → PV} {p : Ex → Bool} (h : PrdE F c p) : Cl (.clo F 1 c) := fun i hi => by
  obtain rfl : i = 0 := by omega
  exact h.c0
theorem PrdE.eq {F : FuncId} {c : Nat → PV} {p : Ex → Bool} (h : PrdE F c p) {τ : Nat → Option Nat} : PEq ((PV.clo F 1 c).ren τ) (.clo F 1 c) := PEq.cl _ h.cl
theorem indexFuncE_c (n : Nat) (g : Nat → Ex) (F : FuncId) (c : Nat → PV) (p : Ex → Bool) (hF : PrdE F c p) (hn : n ≤ 1000000000) :
    PureC G.P 77 [.vsl n 10 (tF cX g), .clo F 1 c] (fun r => ∃ i : Nat, i ≤ n ∧ (∀ j, j < i → p (g j) = false) ∧ ((i < n ∧ p (g i) = true ∧ r = vi i) ∨ (i = n ∧ r = vi (-1)))) := by
  refine pure_of (G := G.toPg) (fn := Try.f77) Try.func77 rfl rfl rfl ?_; intro Γ hk
  repeat' (first | refine yo ?_ ?_ | refine yw ?_ ?_ | refine yk ?_ ?_ | exact trivial | with_reducible refine wA ?_ ?_ | refine ys ?_ ?_ | refine xs_done ?_ | refine yl ?_ ?_ | refine w8 ?_ | refine w9 ?_ | refine w1 ?_ | refine w2 ?_ | refine w3 ?_ | refine w4 ?_ | refine w5 ?_ | refine w6 ?_ | refine w7 ?_ | refine yo0 ?_ ?_ | refine yw0 ?_ ?_ | exact qq | fail)
  refine pcan (st' := ⟨[(0, .vsl n 10 (tF cX g)), (1, .clo F 1 c), (7, vi n), (8, vi ((0 : Nat) : Int))], []⟩) (can_rowsv [] (k0_sel hk rfl) rfl .nil (by exact ⟨PEq.refl _, hF.eq, PEq.refl _, PEq.refl _, trivial⟩)) ?_
  refine ploop (fun q st => ∃ i : Nat, i ≤ n ∧ (∀ j, j < i → p (g j) = false) ∧ q = n - i ∧ st = ⟨[(0, .vsl n 10 (tF cX g)), (1, .clo F 1 c), (7, vi n), (8, vi i)], []⟩) n ⟨0, by omega, fun j hj => by omega, rfl, rfl⟩ ?_
  rintro _ _ ⟨i, hi, hv, rfl, rfl⟩
  repeat' (first | refine yo ?_ ?_ | refine yw ?_ ?_ | refine yk ?_ ?_ | exact trivial | with_reducible refine wA ?_ ?_ | refine ys ?_ ?_ | refine xs_done ?_ | refine yl ?_ ?_ | refine w8 ?_ | refine w9 ?_ | refine w1 ?_ | refine w2 ?_ | refine w3 ?_ | refine w4 ?_ | refine w5 ?_ | refine w6 ?_ | refine w7 ?_ | refine yo0 ?_ ?_ | refine yw0 ?_ ?_ | exact qq | fail)
  refine pcond rfl ?_ ?_ <;> intro hc <;> simp at hc
  · repeat' (first | refine yo ?_ ?_ | refine yw ?_ ?_ | refine yk ?_ ?_ | exact trivial | with_reducible refine wA ?_ ?_ | refine ys ?_ ?_ | refine xs_done ?_ | refine yl ?_ ?_ | refine w8 ?_ | refine w9 ?_ | refine w1 ?_ | refine w2 ?_ | refine w3 ?_ | refine w4 ?_ | refine w5 ?_ | refine w6 ?_ | refine w7 ?_ | refine yo0 ?_ ?_ | refine yw0 ?_ ?_ | exact qq | fail)
    refine pop_rowsc [] rfl rfl rfl rfl rfl rfl .nil (pure_rows (hF.run (g i))) (by exact ⟨PEq.cl _ (fun i _ => clL_nth _ i (cX_cl _)), PEq.cl _ hF.c0, trivial⟩) ?_
    rintro _ _ ⟨rfl, rfl⟩
    refine ⟨_, _, rfl, trivial, rfl, ?_⟩
    cases hp : p (g i) with
    | true =>
      repeat' (first | refine yo ?_ ?_ | refine yw ?_ ?_ | refine yk ?_ ?_ | exact trivial | with_reducible refine wA ?_ ?_ | refine ys ?_ ?_ | refine xs_done ?_ | refine yl ?_ ?_ | refine w8 ?_ | refine w9 ?_ | refine w1 ?_ | refine w2 ?_ | refine w3 ?_ | refine w4 ?_ | refine w5 ?_ | refine w6 ?_ | refine w7 ?_ | refine yo0 ?_ ?_ | refine yw0 ?_ ?_ | exact qq | fail)
      exact kret [] rfl ⟨trivial, trivial⟩ (qs := [vi i]) ⟨argVal, trivial⟩ ⟨i, by omega, hv, .inl ⟨hc, hp, rfl⟩⟩
    | false =>
      repeat' (first | refine yo ?_ ?_ | refine yw ?_ ?_ | refine yk ?_ ?_ | exact trivial | with_reducible refine wA ?_ ?_ | refine ys ?_ ?_ | refine xs_done ?_ | refine yl ?_ ?_ | refine w8 ?_ | refine w9 ?_ | refine w1 ?_ | refine w2 ?_ | refine w3 ?_ | refine w4 ?_ | refine w5 ?_ | refine w6 ?_ | refine w7 ?_ | refine yo0 ?_ ?_ | refine yw0 ?_ ?_ | exact qq | fail)
      rw [show IntKind.i64.wrap ((i : Int) + 1) = ((i + 1 : Nat) : Int) from w64 (by omega) (by omega)]
      exact kloop_next (st' := ⟨[(0, .vsl n 10 (tF cX g)), (1, .clo F 1 c), (7, vi n), (8, vi ((i + 1 : Nat) : Int))], []⟩) (n - (i + 1)) (can_rowsv [] (k0_sel hk rfl) rfl .nil (by exact ⟨PEq.refl _, hF.eq, PEq.refl _, PEq.refl _, trivial⟩)) (by omega) ⟨i + 1, by omega, fun j hj => by
        by_cases e : j = i
        · subst e; exact hp
        · exact hv j (by omega), rfl, rfl⟩
  · have hin : i = n := by omega
    subst hin
    repeat' (first | refine yo ?_ ?_ | refine yw ?_ ?_ | refine yk ?_ ?_ | exact trivial | with_reducible refine wA ?_ ?_ | refine ys ?_ ?_ | refine xs_done ?_ | refine yl ?_ ?_ | refine w8 ?_ | refine w9 ?_ | refine w1 ?_ | refine w2 ?_ | refine w3 ?_ | refine w4 ?_ | refine w5 ?_ | refine w6 ?_ | refine w7 ?_ | refine yo0 ?_ ?_ | refine yw0 ?_ ?_ | exact qq | fail)
    exact kret [] rfl ⟨trivial, trivial⟩ (qs := [vi (-1)]) ⟨argVal, trivial⟩ ⟨i, by omega, hv, .inr ⟨rfl, rfl⟩⟩
theorem lF_getX {l : List Ex} {i : Nat} (h : i < l.length) : lF Ex.nil l i = l[i] := by
  unfold lF; rw [List.getD_eq_getElem?_getD, List.getElem?_eq_getElem h]; rfl
theorem containsFuncE_c (L : List Ex) (F : FuncId) (c : Nat → PV) (p : Ex → Bool) (hF : PrdE F c p) (hn : L.length ≤ 1000000000) : PureC G.P 54 [.vsl L.length 10 (tF cX (lF .nil L)), .clo F 1 c] (fun r => r = vb (L.any p)) := by
  have c1 := indexFuncE_c L.length (lF .nil L) F c p hF hn
  refine pure_of (G := G.toPg) (fn := Try.f54) Try.func54 rfl rfl rfl ?_; intro Γ hk
  repeat' (first | refine yo ?_ ?_ | refine yw ?_ ?_ | refine yk ?_ ?_ | exact trivial | with_reducible refine wA ?_ ?_ | refine ys ?_ ?_ | refine xs_done ?_ | refine yl ?_ ?_ | refine w8 ?_ | refine w9 ?_ | refine w1 ?_ | refine w2 ?_ | refine w3 ?_ | refine w4 ?_ | refine w5 ?_ | refine w6 ?_ | refine w7 ?_ | refine yo0 ?_ ?_ | refine yw0 ?_ ?_ | exact qq | fail)
  refine pop_call [] rfl rfl rfl rfl rfl c1 ⟨argVsl, argCl hF.cl, trivial⟩ ?_
  rintro _ ⟨i, hi, hv, ⟨hin, hp, rfl⟩ | ⟨rfl, rfl⟩⟩
  · refine ⟨trivial, ?_⟩
    repeat' (first | refine yo ?_ ?_ | refine yw ?_ ?_ | refine yk ?_ ?_ | exact trivial | with_reducible refine wA ?_ ?_ | refine ys ?_ ?_ | refine xs_done ?_ | refine yl ?_ ?_ | refine w8 ?_ | refine w9 ?_ | refine w1 ?_ | refine w2 ?_ | refine w3 ?_ | refine w4 ?_ | refine w5 ?_ | refine w6 ?_ | refine w7 ?_ | refine yo0 ?_ ?_ | refine yw0 ?_ ?_ | exact qq | fail)
    refine kretv rfl ⟨trivial, trivial⟩ rfl (eqB ?_)
    have : L.any p = true := by
      rw [lF_getX hin] at hp
      exact List.any_eq_true.2 ⟨_, List.getElem_mem hin, hp⟩
    rw [this]; simp
  · refine ⟨trivial, ?_⟩
    repeat' (first | refine yo ?_ ?_ | refine yw ?_ ?_ | refine yk ?_ ?_ | exact trivial | with_reducible refine wA ?_ ?_ | refine ys ?_ ?_ | refine xs_done ?_ | refine yl ?_ ?_ | refine w8 ?_ | refine w9 ?_ | refine w1 ?_ | refine w2 ?_ | refine w3 ?_ | refine w4 ?_ | refine w5 ?_ | refine w6 ?_ | refine w7 ?_ | refine yo0 ?_ ?_ | refine yw0 ?_ ?_ | exact qq | fail)
    refine kretv rfl ⟨trivial, trivial⟩ rfl (eqB ?_)
    have : L.any p = false := by
      rw [List.any_eq_false]
      intro x hx
      obtain ⟨j, hj, rfl⟩ := List.getElem_of_mem hx
      have := hv j hj
      rw [lF_getX hj] at this
      simp [this]
    rw [this]; rfl
/-! ### mentions -/
def mentB (s : ByteArray) (r : Ex) : Bool := r.nm.toList == s.toList
def mentS (e : Ex) (s : ByteArray) : Bool := (refsE e).any (mentB s)
theorem named_p (s : ByteArray) : PrdE 55 (nthP [.vptr 1 1 (fun _ _ => vs s) 0 0]) (mentB s) := ⟨trivial, fun x => by
  refine pure_of (G := G.toPg) (fn := Try.f55) Try.func55 rfl rfl rfl ?_; intro Γ hk
  repeat' (first | refine yo ?_ ?_ | refine yw ?_ ?_ | refine yk ?_ ?_ | exact trivial | with_reducible refine wA ?_ ?_ | refine ys ?_ ?_ | refine xs_done ?_ | refine yl ?_ ?_ | refine w8 ?_ | refine w9 ?_ | refine w1 ?_ | refine w2 ?_ | refine w3 ?_ | refine w4 ?_ | refine w5 ?_ | refine w6 ?_ | refine w7 ?_ | refine yo0 ?_ ?_ | refine yw0 ?_ ?_ | exact qq | fail)
  exact kretv rfl ⟨trivial, trivial⟩ rfl rfl⟩
theorem mentions_c (e : Ex) (s : ByteArray) (hv : validS 32 e = true) (hw : e.w ≤ 900000) : PureC G.P 46 [vX e, vs s] (fun r => r = vb (mentS e s)) := by
  have rc := (refs_c 32 e hv hw).nil
  have rl := refs_len e
  have hX : mentS e s = (refsE e).any (mentB s) := rfl
  rw [hX]
  refine pure_of (G := G.toPg) (fn := Try.f46) Try.func46 rfl rfl rfl ?_; intro Γ hk
  repeat' (first | refine yo ?_ ?_ | refine yw ?_ ?_ | refine yk ?_ ?_ | exact trivial | with_reducible refine wA ?_ ?_ | refine ys ?_ ?_ | refine xs_done ?_ | refine yl ?_ ?_ | refine w8 ?_ | refine w9 ?_ | refine w1 ?_ | refine w2 ?_ | refine w3 ?_ | refine w4 ?_ | refine w5 ?_ | refine w6 ?_ | refine w7 ?_ | refine yo0 ?_ ?_ | refine yw0 ?_ ?_ | exact qq | fail)
  generalize hR : refsE e = R at *
  have cc := containsFuncE_c R _ _ _ (named_p s) (by omega)
  refine pop_rowsc [] rfl rfl rfl rfl rfl rfl .nil rc (by exact ⟨PEq.refl _, PEq.cl _ (fun i _ => clL_nth _ i (cX_cl _)), trivial⟩) ?_
  rintro r rows ⟨k, hk2, rfl, rfl⟩
  subst hk2
  cases R with
  | nil =>
    refine ⟨_, _, rfl, ⟨v_cl cX_cl _ _ _, trivial⟩, rfl, ?_⟩
    repeat' (first | refine yo ?_ ?_ | refine yw ?_ ?_ | refine yk ?_ ?_ | exact trivial | with_reducible refine wA ?_ ?_ | refine ys ?_ ?_ | refine xs_done ?_ | refine yl ?_ ?_ | refine w8 ?_ | refine w9 ?_ | refine w1 ?_ | refine w2 ?_ | refine w3 ?_ | refine w4 ?_ | refine w5 ?_ | refine w6 ?_ | refine w7 ?_ | refine yo0 ?_ ?_ | refine yw0 ?_ ?_ | exact qq | fail)
    refine pop_callM [1, 2] [] rfl rfl rfl rfl rfl cc (by exact ⟨argM (arg_v (n := 0) (l := 2) cX_cl rfl (List.Mem.tail _ (List.Mem.head _))), argM_clo (fun i hi => by
      have hi : i < 1 := hi
      obtain rfl : i = 0 := by omega
      exact argM_ptr (l := 1) rfl trivial (List.Mem.head _) (Nat.le_refl _) rfl (fun a ha b hb => by
        obtain rfl : b = 0 := by omega
        exact argM (argCl trivial))), trivial⟩) ?_
    rintro _ rfl
    refine ⟨trivial, ?_⟩
    repeat' (first | refine yo ?_ ?_ | refine yw ?_ ?_ | refine yk ?_ ?_ | exact trivial | with_reducible refine wA ?_ ?_ | refine ys ?_ ?_ | refine xs_done ?_ | refine yl ?_ ?_ | refine w8 ?_ | refine w9 ?_ | refine w1 ?_ | refine w2 ?_ | refine w3 ?_ | refine w4 ?_ | refine w5 ?_ | refine w6 ?_ | refine w7 ?_ | refine yo0 ?_ ?_ | refine yw0 ?_ ?_ | exact qq | fail)
    exact kretv rfl ⟨trivial, trivial⟩ rfl rfl
  | cons a R =>
    refine ⟨_, _, rfl, ⟨v_cl cX_cl _ _ _, trivial⟩, rfl, ?_⟩
    repeat' (first | refine yo ?_ ?_ | refine yw ?_ ?_ | refine yk ?_ ?_ | exact trivial | with_reducible refine wA ?_ ?_ | refine ys ?_ ?_ | refine xs_done ?_ | refine yl ?_ ?_ | refine w8 ?_ | refine w9 ?_ | refine w1 ?_ | refine w2 ?_ | refine w3 ?_ | refine w4 ?_ | refine w5 ?_ | refine w6 ?_ | refine w7 ?_ | refine yo0 ?_ ?_ | refine yw0 ?_ ?_ | exact qq | fail)
    refine pop_callM [1, 2] [] rfl rfl rfl rfl rfl cc (by exact ⟨argM (arg_v (n := (R.length + 1)) (l := 2) cX_cl rfl (List.Mem.tail _ (List.Mem.head _))), argM_clo (fun i hi => by
      have hi : i < 1 := hi
      obtain rfl : i = 0 := by omega
      exact argM_ptr (l := 1) rfl trivial (List.Mem.head _) (Nat.le_refl _) rfl (fun a ha b hb => by
        obtain rfl : b = 0 := by omega
        exact argM (argCl trivial))), trivial⟩) ?_
    rintro _ rfl
    refine ⟨trivial, ?_⟩
    repeat' (first | refine yo ?_ ?_ | refine yw ?_ ?_ | refine yk ?_ ?_ | exact trivial | with_reducible refine wA ?_ ?_ | refine ys ?_ ?_ | refine xs_done ?_ | refine yl ?_ ?_ | refine w8 ?_ | refine w9 ?_ | refine w1 ?_ | refine w2 ?_ | refine w3 ?_ | refine w4 ?_ | refine w5 ?_ | refine w6 ?_ | refine w7 ?_ | refine yo0 ?_ ?_ | refine yw0 ?_ ?_ | exact qq | fail)
    exact kretv rfl ⟨trivial, trivial⟩ rfl rfl
end Go.Proofs.Ytcefhgomkehokaa
namespace Go.Proofs.Ytcefhgomkehokaa
theorem deleteFunc1_r (n : Nat) (D : List Int) (hD : D.length = n) (F : FuncId) (c : Nat → PV) (p : Int → Bool) (hF : PrdC1 F c p) (hn : n ≤ 1000000000) :
    RowsC G.P 47 [iRow n (lF 0 D)] [.lsl 0 0 n, .clo F 1 c] (fun r rows => r = .lsl 0 0 (D.filter fun x => !p x).length ∧ rows = [iRow (D.filter fun x => !p x).length (lF 0 (D.filter fun x => !p x))]) := by
  have c1 := indexFunc1_c n (lF 0 D) F c p hF hn
  refine rows_of (G := G.toPg) (fn := Try.f47) Try.func47 rfl rfl rfl ?_; intro Γ hk
  repeat' (first | refine yo ?_ ?_ | refine yw ?_ ?_ | refine yk ?_ ?_ | exact trivial | with_reducible refine wA ?_ ?_ | refine ys ?_ ?_ | refine xs_done ?_ | refine yl ?_ ?_ | refine w8 ?_ | refine w9 ?_ | refine w1 ?_ | refine w2 ?_ | refine w3 ?_ | refine w4 ?_ | refine w5 ?_ | refine w6 ?_ | refine w7 ?_ | refine yo0 ?_ ?_ | refine yw0 ?_ ?_ | exact qq | fail)
  refine pop_call [0] rfl rfl rfl rfl rfl c1 ⟨argLsl (r := iRow n (lF 0 D)) rfl trivial (List.Mem.head _) (by show 0 + n ≤ n; omega) (fun a ha b hb => ⟨by rw [Nat.zero_add]; rfl, trivial⟩), argCl hF.cl, trivial⟩ ?_
  rintro _ ⟨i, hi, hv, ⟨hin, hp, rfl⟩ | ⟨rfl, rfl⟩⟩
  · refine ⟨trivial, ?_⟩
    have hfi : ∀ j, j ≤ i → (D.take j).filter (fun x => !p x) = D.take j := fun j hj => by
      rw [List.filter_eq_self]
      intro x hx
      obtain ⟨q, hq, rfl⟩ := List.getElem_of_mem hx
      have hq2 : q < j := by simp at hq; omega
      have := hv q (by omega)
      rw [lF_get' (by omega)] at this
      rw [List.getElem_take]
      simp [this]
    have hf1 : (D.take (i + 1)).filter (fun x => !p x) = D.take i := by
      rw [filt_step (by omega), hfi i (Nat.le_refl _), if_neg (by simp [hp])]; simp
    have hw0 : IntKind.i64.wrap ((i : Int) + 1) = ((i + 1 : Nat) : Int) := w64 (by omega) (by omega)
    repeat' (first | refine yo ?_ ?_ | refine yw ?_ ?_ | refine yk ?_ ?_ | exact trivial | with_reducible refine wA ?_ ?_ | refine ys ?_ ?_ | refine xs_done ?_ | refine yl ?_ ?_ | refine w8 ?_ | refine w9 ?_ | refine w1 ?_ | refine w2 ?_ | refine w3 ?_ | refine w4 ?_ | refine w5 ?_ | refine w6 ?_ | refine w7 ?_ | refine yo0 ?_ ?_ | refine yw0 ?_ ?_ | exact qq | fail)
    rw [hw0]
    refine pcan (st' := ⟨[(0, .lsl 0 0 n), (1, .clo F 1 c), (5, vi i), (6, vi ((i + 1 : Nat) : Int))], [iRow n (lF 0 D)]⟩) (can_rowsv [0] (k0_sel hk rfl) rfl (.cons rfl rqq .nil) (by exact ⟨PEq.refl _, hF.eq, PEq.refl _, PEq.refl _, trivial⟩)) ?_
    refine ploop (fun q st => ∃ (j k : Nat) (f : Nat → Int), j ≤ n ∧ k < j ∧ k = ((D.take j).filter fun x => !p x).length ∧ (∀ a, a < k → f a = lF 0 ((D.take j).filter fun x => !p x) a) ∧ (∀ a, j ≤ a → f a = lF 0 D a) ∧ q = n - j ∧ st = ⟨[(0, .lsl 0 0 n), (1, .clo F 1 c), (5, vi k), (6, vi j)], [iRow n f]⟩) (n - (i + 1)) ⟨i + 1, i, lF 0 D, by omega, by omega, by rw [hf1]; simp; omega, fun a ha => by rw [hf1]; rw [lF_get' (by omega), lF_get' (by simp; omega), List.getElem_take], fun a ha => rfl, rfl, rfl⟩ ?_
    rintro _ _ ⟨j, k, f, hj, hkj, hkl, hf, hg, rfl, rfl⟩
    repeat' (first | refine yo ?_ ?_ | refine yw ?_ ?_ | refine yk ?_ ?_ | exact trivial | with_reducible refine wA ?_ ?_ | refine ys ?_ ?_ | refine xs_done ?_ | refine yl ?_ ?_ | refine w8 ?_ | refine w9 ?_ | refine w1 ?_ | refine w2 ?_ | refine w3 ?_ | refine w4 ?_ | refine w5 ?_ | refine w6 ?_ | refine w7 ?_ | refine yo0 ?_ ?_ | refine yw0 ?_ ?_ | exact qq | fail)
    refine pcond rfl ?_ ?_ <;> intro hc <;> simp at hc
    · have hw1 : IntKind.i64.wrap ((j : Int) + 1) = ((j + 1 : Nat) : Int) := w64 (by omega) (by omega)
      have hw2 : IntKind.i64.wrap ((k : Int) + 1) = ((k + 1 : Nat) : Int) := w64 (by omega) (by omega)
      have hst := filt_step (D := D) (q := fun x => !p x) (j := j) (by omega)
      repeat' (first | refine yo ?_ ?_ | refine yw ?_ ?_ | refine yk ?_ ?_ | exact trivial | with_reducible refine wA ?_ ?_ | refine ys ?_ ?_ | refine xs_done ?_ | refine yl ?_ ?_ | refine w8 ?_ | refine w9 ?_ | refine w1 ?_ | refine w2 ?_ | refine w3 ?_ | refine w4 ?_ | refine w5 ?_ | refine w6 ?_ | refine w7 ?_ | refine yo0 ?_ ?_ | refine yw0 ?_ ?_ | exact qq | fail)
      refine pop_rowsc [] rfl rfl rfl rfl rfl rfl .nil (pure_rows (hF.run (lF 0 D j))) (by exact ⟨PEq.of (by show vi (f (0 + (j : Int).toNat)) = _; rw [show 0 + (j : Int).toNat = j by omega, hg j (Nat.le_refl _)]), PEq.cl _ hF.c0, trivial⟩) ?_
      rintro _ _ ⟨rfl, rfl⟩
      refine ⟨_, _, rfl, trivial, rfl, ?_⟩
      cases hpj : p (lF 0 D j) with
      | true =>
        rw [if_neg (by simp [hpj]), List.append_nil] at hst
        repeat' (first | refine yo ?_ ?_ | refine yw ?_ ?_ | refine yk ?_ ?_ | exact trivial | with_reducible refine wA ?_ ?_ | refine ys ?_ ?_ | refine xs_done ?_ | refine yl ?_ ?_ | refine w8 ?_ | refine w9 ?_ | refine w1 ?_ | refine w2 ?_ | refine w3 ?_ | refine w4 ?_ | refine w5 ?_ | refine w6 ?_ | refine w7 ?_ | refine yo0 ?_ ?_ | refine yw0 ?_ ?_ | exact qq | fail)
        rw [hw1]
        exact kloop_next (st' := ⟨[(0, .lsl 0 0 n), (1, .clo F 1 c), (5, vi k), (6, vi ((j + 1 : Nat) : Int))], [iRow n f]⟩) (n - (j + 1)) (can_rowsv [0] (k0_sel hk rfl) rfl (.cons rfl rqq .nil) (by exact ⟨PEq.refl _, hF.eq, PEq.refl _, PEq.refl _, trivial⟩)) (by omega) ⟨j + 1, k, f, by omega, by omega, by rw [hst]; exact hkl, by rw [hst]; exact hf, fun a ha => hg a (by omega), rfl, rfl⟩
      | false =>
        rw [if_pos (by simp [hpj])] at hst
        have hlen : ((D.take (j + 1)).filter fun x => !p x).length = k + 1 := by rw [hst, List.length_append, ← hkl]; rfl
        repeat' (first | refine yo ?_ ?_ | refine yw ?_ ?_ | refine yk ?_ ?_ | exact trivial | with_reducible refine wA ?_ ?_ | refine ys ?_ ?_ | refine xs_done ?_ | refine yl ?_ ?_ | refine w8 ?_ | refine w9 ?_ | refine w1 ?_ | refine w2 ?_ | refine w3 ?_ | refine w4 ?_ | refine w5 ?_ | refine w6 ?_ | refine w7 ?_ | refine yo0 ?_ ?_ | refine yw0 ?_ ?_ | exact qq | fail)
        rw [hw1, hw2]
        have hg2 : ∀ a, k < a → (upd f k (f j)) a = f a := fun a ha => if_neg (by omega)
        have hg3 : (upd f k (f j)) k = lF 0 D j := by unfold upd; rw [if_pos rfl, hg j (Nat.le_refl _)]
        have hg4 : ∀ a, a < k → (upd f k (f j)) a = f a := fun a ha => if_neg (by omega)
        refine kloop_next (st' := ⟨[(0, .lsl 0 0 n), (1, .clo F 1 c), (5, vi ((k + 1 : Nat) : Int)), (6, vi ((j + 1 : Nat) : Int))], [iRow n (upd f k (f j))]⟩) (n - (j + 1)) (can_rowsv [0] (k0_sel hk rfl) rfl (.cons rfl (i_eq (Nat.le_refl _) fun a ha => ?_) .nil) (by exact ⟨PEq.refl _, hF.eq, PEq.refl _, PEq.refl _, trivial⟩)) (by omega) ⟨j + 1, k + 1, _, by omega, by omega, hlen.symm, fun a ha => ?_, fun a ha => by rw [hg2 a (by omega)]; exact hg a (by omega), rfl, rfl⟩
        · show updR (tI f) (0 + (k : Int).toNat) [vi (f (0 + (j : Int).toNat))] a 0 = _
          rw [show 0 + (k : Int).toNat = k by omega, show 0 + (j : Int).toNat = j by omega]
          exact upd_eq f k (f j) a 0 rfl
        · by_cases e : a = k
          · subst e
            rw [hg3, hst]
            have := lF_at (d := 0) (y := lF 0 D j) (l := (D.take j).filter fun x => !p x) (r := [])
            rw [← hkl] at this; exact this.symm
          · rw [hg4 a (by omega), hf a (by omega), hst, lF_lt (by omega)]
    · have hjn : j = n := by omega
      subst hjn
      have hT : D.take j = D := by rw [← hD]; simp
      rw [hT] at hkl hf
      rw [← hkl]
      repeat' (first | refine yo ?_ ?_ | refine yw ?_ ?_ | refine yk ?_ ?_ | exact trivial | with_reducible refine wA ?_ ?_ | refine ys ?_ ?_ | refine xs_done ?_ | refine yl ?_ ?_ | refine w8 ?_ | refine w9 ?_ | refine w1 ?_ | refine w2 ?_ | refine w3 ?_ | refine w4 ?_ | refine w5 ?_ | refine w6 ?_ | refine w7 ?_ | refine yo0 ?_ ?_ | refine yw0 ?_ ?_ | exact qq | fail)
      show POps _ _ _ _ (_ :: _) _ _
      refine pop_clear (G := G.toPg) hu_int hz_int rfl rfl rfl rfl rfl rfl rfl rfl ?_
      repeat' (first | refine yo ?_ ?_ | refine yw ?_ ?_ | refine yk ?_ ?_ | exact trivial | with_reducible refine wA ?_ ?_ | refine ys ?_ ?_ | refine xs_done ?_ | refine yl ?_ ?_ | refine w8 ?_ | refine w9 ?_ | refine w1 ?_ | refine w2 ?_ | refine w3 ?_ | refine w4 ?_ | refine w5 ?_ | refine w6 ?_ | refine w7 ?_ | refine yo0 ?_ ?_ | refine yw0 ?_ ?_ | exact qq | fail)
      · exact ⟨trivial, trivial, by omega, by omega, by omega⟩
      refine xdone ?_
      refine kretr (st' := ⟨[(4, .lsl 0 0 k)], [iRow k (lF 0 (D.filter fun x => !p x))]⟩) (can_rowsv [0] (k0_sel hk rfl) rfl (.cons rfl (i_eq (by show k ≤ j; omega) fun a ha => ?_) .nil) (by exact ⟨PEq.of (by show PV.lsl 0 0 _ = _; congr 1), trivial⟩)) rfl ⟨trivial, trivial⟩ rfl ⟨rfl, rfl⟩
      show clrF _ _ (tI f) a 0 = _
      unfold clrF
      rw [if_neg (by omega)]
      · show vi (f a) = _
        rw [hf a ha]
      · exact ⟨trivial, trivial, by omega, by omega, by omega⟩
  · refine ⟨trivial, ?_⟩
    have hM : (D.filter fun x => !p x) = D := by
      rw [List.filter_eq_self]
      intro x hx
      obtain ⟨j, hj, rfl⟩ := List.getElem_of_mem hx
      have := hv j (by omega)
      rw [lF_get' hj] at this
      simp [this]
    rw [hM, hD]
    repeat' (first | refine yo ?_ ?_ | refine yw ?_ ?_ | refine yk ?_ ?_ | exact trivial | with_reducible refine wA ?_ ?_ | refine ys ?_ ?_ | refine xs_done ?_ | refine yl ?_ ?_ | refine w8 ?_ | refine w9 ?_ | refine w1 ?_ | refine w2 ?_ | refine w3 ?_ | refine w4 ?_ | refine w5 ?_ | refine w6 ?_ | refine w7 ?_ | refine yo0 ?_ ?_ | refine yw0 ?_ ?_ | exact qq | fail)
    refine xdone ?_
    exact kretr (st' := ⟨[(4, .lsl 0 0 i)], [iRow i (lF 0 D)]⟩) (can_rowsv [0] (k0_sel hk rfl) rfl (by (repeat (refine SelV.cons rfl rqq ?_)); exact SelV.nil) tmq) rfl ⟨trivial, trivial⟩ rfl ⟨rfl, rfl⟩
end Go.Proofs.Ytcefhgomkehokaa
namespace Go.Proofs.Ytcefhgomkehokaa
theorem rows_drop {P : Program} {f : FuncId} {rows : List Row} {args : List PV} {post post' : PV → List Row → Prop} (h : RowsC P f rows args post) (hp : ∀ r rows', post r rows' → ∃ n, rows.length ≤ n ∧ n ≤ rows'.length ∧ post' r (rows'.take n) ∧ (∀ x r0, x < n → rows'[x]? = some r0 → r0.s ≠ .mp ∧ rowCl r0) ∧ ∀ ρ I w v, VRel rows'.length ρ I w r v → VRel n ρ I w r v) : RowsC P f rows args post' :=
  ⟨h.1, fun ρ A w vs hm hG hl hv => (h.2 ρ A w vs hm hG hl hv).mono fun e w' ⟨v, r, rows', ρ', I', he, hpost, hex, hfr, hrv⟩ => by
    obtain ⟨n, h1, h2, h3, h4, h5⟩ := hp r rows' hpost
    have get : ∀ {x : Nat} {r0 : Row}, (rows'.take n)[x]? = some r0 → x < n ∧ rows'[x]? = some r0 := fun {x r0} hx => by
      rw [List.getElem?_take] at hx
      split at hx
      · exact ⟨by assumption, hx⟩
      · cases hx
    have hlen : (rows'.take n).length = n := by rw [List.length_take]; omega
    refine ⟨v, r, rows'.take n, ρ', I', he, h3, fun x r0 hx hx2 hs => hex x r0 hx (get hx2).2 hs, ⟨⟨fun x r0 hx hs => ?_, fun x y r0 r1 hne hx hy => hfr.m.apart x y r0 r1 hne (get hx).2 (get hy).2, fun x r0 hx => hfr.m.mine x r0 (get hx).2, fun x r0 hx => hfr.m.imm x r0 (get hx).2, hfr.m.lt, fun x r0 hx hs => absurd hs (h4 x r0 (get hx).1 (get hx).2).1, fun x y r0 r1 hne hx hy hs => absurd hs (h4 x r0 (get hx).1 (get hx).2).1⟩, hfr.os, hfr.tape, hfr.output, hfr.size, hfr.block, hfr.shape, hfr.old, hfr.new, fun x r0 hx => hfr.own x r0 (get hx).2, fun x r0 hx => hfr.fresh x r0 (get hx).2, by rw [hlen]; exact h1, hfr.ρ0, fun x r0 hx hs => absurd hs (h4 x r0 (get hx).1 (get hx).2).1, hfr.gl⟩, by rw [hlen]; exact h5 _ _ _ _ hrv⟩
    obtain ⟨g1, cs, T, g2, g3⟩ := hfr.m.row x r0 (get hx).2 hs
    exact ⟨g1, cs, T, g2, fun i hi j hj => by obtain ⟨u, k1, k2, k3⟩ := g3 i hi j hj; exact ⟨u, k1, k2, VRel.close _ _ _ _ ((h4 x r0 (get hx).1 (get hx).2).2 i hi j hj) k3⟩⟩⟩
theorem gr_rel {k : Nat} {c : PV} {ρ : Nat → Loc} {I : Nat → Prop} {w : World} {v : Value} (h : VRel 2 ρ I w (.tup 2 (nthP [.agg 2 (nthP [slP k 0, .vmap c]), vi 0])) v) : VRel 1 ρ I w (.tup 2 (nthP [.agg 2 (nthP [slP k 0, .vmap c]), vi 0])) v := by
  obtain ⟨vs, h1, h2, h3⟩ := h
  refine ⟨vs, h1, h2, fun i hi => ?_⟩
  obtain rfl | rfl : i = 0 ∨ i = 1 := by omega
  · obtain ⟨us, g1, g2, g3⟩ := h3 0 (by omega)
    refine ⟨us, g1, g2, fun j hj => ⟨(g3 j hj).1, ?_⟩⟩
    obtain rfl | rfl : j = 0 ∨ j = 1 := by omega
    · cases k with
      | zero => exact VRel.close (ρ := ρ) _ _ _ _ trivial (g3 0 (by omega)).2
      | succ k =>
        have := (g3 0 (by omega)).2
        exact ⟨by omega, this.2⟩
    · exact VRel.close (ρ := ρ) _ _ _ _ trivial (g3 1 (by omega)).2
  · exact VRel.close (ρ := ρ) _ _ _ _ trivial (h3 1 (by omega))
theorem newGraph_d (nm : ByteArray) (l : List Df) (day : Int) (h : AgO nm l) (hl : l.length ≤ 1000000) (he : gErr nm l day = 0) : RowsC G.P 21 [] [vA nm l, vi day] (fun r rows => ∃ k, (nodS l day).length = k ∧ r = .tup 2 (nthP [.agg 2 (nthP [slP k 0, .vmap (cS (mapS l day))]), vi 0]) ∧ rows = [vRow c1 1 k (lF 0 (nodS l day))]) := rows_drop (newGraph_r nm l day h hl) fun r rows hr => by
  rcases hr with ⟨h1, _⟩ | ⟨_, k, hk2, rfl, rfl⟩
  · exact absurd he h1
  · refine ⟨1, Nat.zero_le _, (by show 1 ≤ 2; decide), ⟨k, hk2, rfl, rfl⟩, fun x r0 hx h0 => ?_, fun ρ I w v hv => gr_rel hv⟩
    obtain rfl : x = 0 := by omega
    have h0 : some (vRow c1 1 k (lF 0 (nodL l (actL l day)))) = some r0 := h0
    injection h0 with h0
    subst h0
    refine ⟨?_, v_cl c1_cl _ _ _⟩
    cases k <;> (intro hh; cases hh)
theorem deleteFunc10_c (F : FuncId) (c : Nat → PV) (p : Int → Bool) (hF : PrdC1 F c p) (f : Nat → Int) : PureC G.P 47 [.vsl 0 1 (tI f), .clo F 1 c] (fun r => r = .vsl 0 1 (tI f)) := by
  have c1 := indexFunc1_c 0 f F c p hF (by decide)
  refine pure_of (G := G.toPg) (fn := Try.f47) Try.func47 rfl rfl rfl ?_; intro Γ hk
  repeat' (first | refine yo ?_ ?_ | refine yw ?_ ?_ | refine yk ?_ ?_ | exact trivial | with_reducible refine wA ?_ ?_ | refine ys ?_ ?_ | refine xs_done ?_ | refine yl ?_ ?_ | refine w8 ?_ | refine w9 ?_ | refine w1 ?_ | refine w2 ?_ | refine w3 ?_ | refine w4 ?_ | refine w5 ?_ | refine w6 ?_ | refine w7 ?_ | refine yo0 ?_ ?_ | refine yw0 ?_ ?_ | exact qq | fail)
  refine pop_call [] rfl rfl rfl rfl rfl c1 ⟨argVsl, argCl hF.cl, trivial⟩ ?_
  rintro _ ⟨i, hi, hv, ⟨hin, hp, rfl⟩ | ⟨rfl, rfl⟩⟩
  · omega
  · refine ⟨trivial, ?_⟩
    repeat' (first | refine yo ?_ ?_ | refine yw ?_ ?_ | refine yk ?_ ?_ | exact trivial | with_reducible refine wA ?_ ?_ | refine ys ?_ ?_ | refine xs_done ?_ | refine yl ?_ ?_ | refine w8 ?_ | refine w9 ?_ | refine w1 ?_ | refine w2 ?_ | refine w3 ?_ | refine w4 ?_ | refine w5 ?_ | refine w6 ?_ | refine w7 ?_ | refine yo0 ?_ ?_ | refine yw0 ?_ ?_ | exact qq | fail)
    exact kretv rfl ⟨trivial, trivial⟩ rfl rfl
end Go.Proofs.Ytcefhgomkehokaa
