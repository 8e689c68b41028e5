/- leave.eventful. -/
import Derived.Test.YtpaeomgnmimjoaaDoorL3
import Derived.Test.YtpaeomgnmimjoaaDoorSli2
import Derived.Test.YtpaeomgnmimjoaaDoorSoA15
set_option linter.unusedSimpArgs false
set_option linter.unusedVariables false
set_option maxRecDepth 100000
namespace Go.Proofs.YtpaeomgnmimjoaaDoor
/-- append of two numbers -/
theorem app_l2 {τ : Nat → Option Nat} {m : Nat} {l : List Int} {x y : Int} (hl : l.length = m) : RowEq (Row.ren τ ⟨.own, false, m + 2, 1, appF m (fun q => tF c1 (lF 0 l) (0 + q)) (fun q b => nthP [vi x, vi y] ((0 + q) * 1 + b))⟩) (vRow c1 1 (m + 2) (lF 0 (l ++ [x, y]))) := by
  subst hl
  refine o_eq c1_cl (Nat.le_refl _) fun a ha b hb => ?_
  obtain rfl : b = 0 := by omega
  by_cases e : a < l.length
  · rw [appF_lt _ _ e, Nat.zero_add, lF_lt e]; rfl
  · rw [appF_ge _ _ (by omega)]
    rcases (by omega : a = l.length ∨ a = l.length + 1) with rfl | rfl
    · rw [Nat.sub_self, lF_at]; rfl
    · rw [show l.length + 1 - l.length = 1 by omega]
      have : lF 0 (l ++ [x, y]) (l.length + 1) = y := by
        have := lF_at (d := 0) (l := l ++ [x]) (y := y) (r := [])
        simpa using this
      rw [this]; rfl
theorem app_l02 {τ : Nat → Option Nat} {l : List Int} {x y : Int} (hl : l.length = 0) : RowEq (Row.ren τ ⟨.own, false, 2, 1, fun q b => nthP [vi x, vi y] ((0 + q) * 1 + b)⟩) (vRow c1 1 (0 + 2) (lF 0 (l ++ [x, y]))) := by
  have : l = [] := List.length_eq_zero_iff.1 hl
  subst this
  refine o_eq c1_cl (Nat.le_refl _) fun a ha b hb => ?_
  obtain rfl : b = 0 := by omega
  rcases (by omega : a = 0 ∨ a = 1) with rfl | rfl <;> rfl
abbrev cLR (r : LR) : PV := .vptr 1 8 (fun _ => nthP (lrL r)) 0 0
abbrev cLast (x : Int) : PV := .vptr 1 1 (fun _ => nthP [vi x]) 0 0
abbrev rLast (x : Int) : Row := ⟨.own, true, 1, 1, fun _ => nthP [vi x]⟩
def outS (r : LR) (last x : Int) : Bool := !(decide (r.frm ≤ x) && decide (x ≤ last))
theorem evClo_c (r : LR) (last x : Int) : PureC G.P 25 [vi x, cLR r, cLast last] (fun q => q = vb (outS r last x)) := by
  have c1 := within_c x r.frm last
  refine pure_of (G := G.toPg) (fn := Tryd.f25) Tryd.func25 rfl rfl rfl ?_; intro Γ hk
  repeat' (first | refine yo ?_ ?_ | refine yw ?_ ?_ | refine yk ?_ ?_ | exact trivial | with_reducible refine wA ?_ ?_ | refine ys ?_ ?_ | refine xs_done ?_ | refine yl ?_ ?_ | refine z1 c1 ?_ | refine z2 c1 ?_ | refine z3 c1 ?_ | refine z4 c1 ?_ | refine z5 c1 ?_ | refine w8 ?_ | refine w9 ?_ | refine w1 ?_ | refine w2 ?_ | refine w3 ?_ | refine w4 ?_ | refine w5 ?_ | refine w6 ?_ | refine w7 ?_ | refine yo0 ?_ ?_ | refine yw0 ?_ ?_ | exact qq | fail)
  exact kretv rfl ⟨trivial, trivial⟩ rfl (eqB rfl)
theorem evPrd (r : LR) (last : Int) : PrdC 25 (nthP [cLR r, cLast last]) (outS r last) := ⟨trivial, trivial, evClo_c r last⟩
theorem evN_len (r : LR) : ∀ k, (evN r k).length = 2 * k
  | 0 => rfl
  | k + 1 => by rw [evN, List.length_append, evN_len]; simp; omega
def keysAt (m : List (Int × Int)) (s : List Nat) : List Int := s.map fun j => (m.getD j (0, 0)).1
theorem nodup_lt_len {s : List Nat} {n : Nat} (h1 : s.Nodup) (h2 : ∀ j, j ∈ s → j < n) : s.length ≤ n := by
  have : s.length ≤ (List.range n).length := h1.length_le_of_subset fun x hx => List.mem_range.2 (h2 x hx)
  simpa using this
theorem keysAt_snoc {m : List (Int × Int)} {s : List Nat} {j : Nat} {k v : Int} (h : m[j]? = some (k, v)) : keysAt m (s ++ [j]) = keysAt m s ++ [k] := by
  unfold keysAt
  rw [List.map_append]
  simp [List.getD_eq_getElem?_getD, h]
theorem mem_keysAt {m : List (Int × Int)} {s : List Nat} (h1 : ∀ j, j ∈ s → j < m.length) (h2 : ∀ j, j < m.length → j ∈ s) (x : Int) : x ∈ keysAt m s ↔ x ∈ m.map (·.1) := by
  unfold keysAt
  rw [List.mem_map, List.mem_map]
  constructor
  · rintro ⟨j, hj, rfl⟩
    have := h1 j hj
    exact ⟨m[j], List.getElem_mem _, by simp [List.getD_eq_getElem?_getD, this]⟩
  · rintro ⟨e, he, rfl⟩
    obtain ⟨j, hj, rfl⟩ := List.getElem_of_mem he
    exact ⟨j, h2 j hj, by simp [List.getD_eq_getElem?_getD, hj]⟩
set_option maxHeartbeats 4000000 in
theorem eventful_r (r : LR) (hr : LOk r) (m : List (Int × Int)) (hm : m.length ≤ 100000) (last : Int) (h1 : r.frm ≤ last) (h2 : last ≤ 84005) :
    RowsC G.P 20 [mRow kI m] [vLR r, .mref 0, vi last] (fun q rows => q = vDay (dsS r (m.map (·.1)) last) ∧ rows = [mRow kI m]) := by
  have hf := hr.frm
  have ht := hr.too
  have hm0 := m0_bd hr
  have gl := date_ok (d := last) (by omega) h2
  have gl0 := gl.m0; have gl1 := gl.m1
  have mm := month_mono (a := r.frm) (b := last) (by omega) h1 h2
  have k1 := month_c r.frm (by omega) (by omega)
  have k2 := month_c last (by omega) h2
  have hw0 : IntKind.i64.wrap (monthS r.frm - 1) = monthS r.frm - 1 := w64 (by omega) (by omega)
  refine rows_of (G := G.toPg) (fn := Tryd.f20) Tryd.func20 rfl rfl rfl ?_; intro Γ hk
  repeat' (first | refine yo ?_ ?_ | refine yw ?_ ?_ | refine yk ?_ ?_ | exact trivial | with_reducible refine wA ?_ ?_ | refine ys ?_ ?_ | refine xs_done ?_ | refine yl ?_ ?_ | refine z1 k1 ?_ | refine z2 k1 ?_ | refine z3 k1 ?_ | refine z4 k1 ?_ | refine z5 k1 ?_ | refine w8 ?_ | refine w9 ?_ | refine w1 ?_ | refine w2 ?_ | refine w3 ?_ | refine w4 ?_ | refine w5 ?_ | refine w6 ?_ | refine w7 ?_ | refine yo0 ?_ ?_ | refine yw0 ?_ ?_ | exact qq | fail)
  rw [hw0]
  refine pcan (can_virt (vRow c1 1 0 (lF 0 (evN r 0))) rfl) ?_
  refine pcan (st' := ⟨[(1, .mref 0), (3, .ptr 1 0 0), (5, .ptr 2 0 0), (7, slP 0 3), (8, vi (m0S r + (0 : Nat)))], [mRow kI m, rLR r, rLast last, vRow c1 1 0 (lF 0 (evN r 0))]⟩) (can_rowsv [0, 1, 2, 3] (k0_sel hk rfl) rfl (.cons rfl m_eq (.cons rfl rqq (.cons rfl rqq (.cons rfl rqq .nil)))) (by exact ⟨PEq.refl _, PEq.refl _, PEq.refl _, PEq.refl _, by rw [show m0S r + ((0 : Nat) : Int) = m0S r by omega]; exact PEq.refl _, trivial⟩)) ?_
  refine ploop (fun q st => ∃ (j k : Nat), m0S r + j ≤ monthS last + 1 ∧ (evN r j).length = k ∧ q = 3000 - j ∧ st = ⟨[(1, .mref 0), (3, .ptr 1 0 0), (5, .ptr 2 0 0), (7, slP k 3), (8, vi (m0S r + j))], [mRow kI m, rLR r, rLast last, vRow c1 1 k (lF 0 (evN r j))]⟩) 3000 ⟨0, 0, by omega, rfl, rfl, rfl⟩ ?_
  rintro _ _ ⟨j, k, hj, hkl, rfl, rfl⟩
  have hk2 := evN_len r j
  repeat' (first | refine yo ?_ ?_ | refine yw ?_ ?_ | refine yk ?_ ?_ | exact trivial | with_reducible refine wA ?_ ?_ | refine ys ?_ ?_ | refine xs_done ?_ | refine yl ?_ ?_ | refine z1 k2 ?_ | refine z2 k2 ?_ | refine z3 k2 ?_ | refine z4 k2 ?_ | refine z5 k2 ?_ | refine w8 ?_ | refine w9 ?_ | refine w1 ?_ | refine w2 ?_ | refine w3 ?_ | refine w4 ?_ | refine w5 ?_ | refine w6 ?_ | refine w7 ?_ | refine yo0 ?_ ?_ | refine yw0 ?_ ?_ | exact qq | fail)
  refine pcond rfl ?_ ?_ <;> intro hc <;> simp at hc
  · have k3 := first_c' (m0S r + j) (by omega) (by omega)
    have hfr := first_rng (n := m0S r + j) (by omega) (by omega)
    have hd := hr.day
    have hw1 : IntKind.i64.wrap (firstS (m0S r + j) + r.day) = firstS (m0S r + j) + r.day := w64 (by omega) (by omega)
    have hw2 : IntKind.i64.wrap (m0S r + j + 1) = m0S r + ((j + 1 : Nat) : Int) := by rw [w64 (by omega) (by omega)]; omega
    have e : evN r (j + 1) = evN r j ++ [firstS (m0S r + j), firstS (m0S r + j) + r.day] := rfl
    rcases k with _ | k
    · repeat' (first | refine yo ?_ ?_ | refine yw ?_ ?_ | refine yk ?_ ?_ | exact trivial | with_reducible refine wA ?_ ?_ | refine ys ?_ ?_ | refine xs_done ?_ | refine yl ?_ ?_ | refine z1 k3 ?_ | refine z2 k3 ?_ | refine z3 k3 ?_ | refine z4 k3 ?_ | refine z5 k3 ?_ | refine w8 ?_ | refine w9 ?_ | refine w1 ?_ | refine w2 ?_ | refine w3 ?_ | refine w4 ?_ | refine w5 ?_ | refine w6 ?_ | refine w7 ?_ | refine yo0 ?_ ?_ | refine yw0 ?_ ?_ | exact qq | fail)
      · exact ⟨Nat.le_refl _, Nat.zero_lt_two, Nat.le_of_ble_eq_true rfl, Nat.le_of_ble_eq_true rfl⟩
      rw [hw1, hw2]
      exact kloop_next (st' := ⟨[(1, .mref 0), (3, .ptr 1 0 0), (5, .ptr 2 0 0), (7, slP (0 + 2) 3), (8, vi (m0S r + ((j + 1 : Nat) : Int)))], [mRow kI m, rLR r, rLast last, vRow c1 1 (0 + 2) (lF 0 (evN r (j + 1)))]⟩) (3000 - (j + 1)) (can_rowsv [0, 1, 2, 5] (k0_sel hk rfl) rfl (.cons rfl m_eq (.cons rfl rqq (.cons rfl rqq (.cons rfl (by rw [e]; exact app_l02 hkl) .nil)))) tmq) (by omega) ⟨j + 1, 0 + 2, by omega, by rw [e, List.length_append, hkl]; rfl, rfl, rfl⟩
    · repeat' (first | refine yo ?_ ?_ | refine yw ?_ ?_ | refine yk ?_ ?_ | exact trivial | with_reducible refine wA ?_ ?_ | refine ys ?_ ?_ | refine xs_done ?_ | refine yl ?_ ?_ | refine z1 k3 ?_ | refine z2 k3 ?_ | refine z3 k3 ?_ | refine z4 k3 ?_ | refine z5 k3 ?_ | refine w8 ?_ | refine w9 ?_ | refine w1 ?_ | refine w2 ?_ | refine w3 ?_ | refine w4 ?_ | refine w5 ?_ | refine w6 ?_ | refine w7 ?_ | refine yo0 ?_ ?_ | refine yw0 ?_ ?_ | exact qq | fail)
      rw [hw1, hw2]
      exact kloop_next (st' := ⟨[(1, .mref 0), (3, .ptr 1 0 0), (5, .ptr 2 0 0), (7, slP (k + 1 + 2) 3), (8, vi (m0S r + ((j + 1 : Nat) : Int)))], [mRow kI m, rLR r, rLast last, vRow c1 1 (k + 1 + 2) (lF 0 (evN r (j + 1)))]⟩) (3000 - (j + 1)) (can_rowsv [0, 1, 2, 5] (k0_sel hk rfl) rfl (.cons rfl m_eq (.cons rfl rqq (.cons rfl rqq (.cons rfl (by rw [e]; exact app_l2 hkl) .nil)))) tmq) (by omega) ⟨j + 1, k + 1 + 2, by omega, by rw [e, List.length_append, hkl]; rfl, rfl, rfl⟩
  · have hE : evS r last = evN r j := by unfold evS; rw [show (monthS last + 1 - m0S r).toNat = j by omega]
    obtain ⟨k, rfl⟩ : ∃ k', k = k' + 1 := ⟨k - 1, by omega⟩
    have hk0 : k + 1 ≤ 6000 := by omega
    clear hk2 hc
    obtain ⟨E, hEE⟩ : ∃ E, E = evN r j := ⟨_, rfl⟩
    rw [← hEE] at hE hkl ⊢
    clear hEE
    repeat' (first | refine yo ?_ ?_ | refine yw ?_ ?_ | refine yk ?_ ?_ | exact trivial | with_reducible refine wA ?_ ?_ | refine ys ?_ ?_ | refine xs_done ?_ | refine yl ?_ ?_ | refine w8 ?_ | refine w9 ?_ | refine w1 ?_ | refine w2 ?_ | refine w3 ?_ | refine w4 ?_ | refine w5 ?_ | refine w6 ?_ | refine w7 ?_ | refine yo0 ?_ ?_ | refine yw0 ?_ ?_ | exact qq | fail)
    refine pop_range Tryd.underlying50 rfl rfl rfl rfl rfl rfl rfl ?_
    repeat' (first | refine yo ?_ ?_ | refine yw ?_ ?_ | refine yk ?_ ?_ | exact trivial | with_reducible refine wA ?_ ?_ | refine ys ?_ ?_ | refine xs_done ?_ | refine yl ?_ ?_ | refine w8 ?_ | refine w9 ?_ | refine w1 ?_ | refine w2 ?_ | refine w3 ?_ | refine w4 ?_ | refine w5 ?_ | refine w6 ?_ | refine w7 ?_ | refine yo0 ?_ ?_ | refine yw0 ?_ ?_ | exact qq | fail)
    refine pcan (st' := ⟨[(1, .mref 0), (3, .ptr 1 0 0), (5, .ptr 2 0 0), (7, slP (k + 1) 3), (38, .ptr 4 0 0)], [mRow kI m, rLR r, rLast last, vRow c1 1 (k + 1) (lF 0 (E ++ keysAt m [])), itRow 4 0 []]⟩) (can_rowsv [0, 1, 2, 3, 4] (k0_sel hk rfl) rfl (.cons rfl m_eq (.cons rfl rqq (.cons rfl rqq (.cons rfl (by rw [show E ++ keysAt m [] = E from List.append_nil _]; exact rqq) (.cons rfl (it_eq rfl rfl) .nil))))) tmq) ?_
    refine ploop (fun q st => ∃ (s : List Nat) (k : Nat), s.Nodup ∧ (∀ j, j ∈ s → j < m.length) ∧ (E ++ keysAt m s).length = k + 1 ∧ k ≤ 6000 + s.length ∧ q = m.length - s.length ∧ st = ⟨[(1, .mref 0), (3, .ptr 1 0 0), (5, .ptr 2 0 0), (7, slP (k + 1) 3), (38, .ptr 4 0 0)], [mRow kI m, rLR r, rLast last, vRow c1 1 (k + 1) (lF 0 (E ++ keysAt m s)), itRow 4 0 s]⟩) m.length ⟨[], k, by simp, fun j hj => by simp at hj, by simpa [keysAt] using hkl, by omega, rfl, rfl⟩ ?_
    clear hkl hk0 k
    rintro _ _ ⟨s, k, hs1, hs2, hkl, hkb, rfl, rfl⟩
    have hsl := nodup_lt_len hs1 hs2
    repeat' (first | refine yo ?_ ?_ | refine yw ?_ ?_ | refine yk ?_ ?_ | exact trivial | with_reducible refine wA ?_ ?_ | refine ys ?_ ?_ | refine xs_done ?_ | refine yl ?_ ?_ | refine w8 ?_ | refine w9 ?_ | refine w1 ?_ | refine w2 ?_ | refine w3 ?_ | refine w4 ?_ | refine w5 ?_ | refine w6 ?_ | refine w7 ?_ | refine yo0 ?_ ?_ | refine yw0 ?_ ?_ | exact qq | fail)
    refine pop_next rfl rfl rfl rfl rfl rfl rfl (by rw [hk]; exact Nat.le_of_ble_eq_true rfl) (fun _ => rfl) ?_ ?_
    · intro hall
      obtain ⟨D, hDD⟩ : ∃ D, D = E ++ keysAt m s := ⟨_, rfl⟩
      have hDm : ∀ x, x ∈ D ↔ x ∈ evS r last ∨ x ∈ m.map (·.1) := fun x => by rw [hDD, List.mem_append, mem_keysAt hs2 hall, hE]
      rw [← hDD] at hkl ⊢
      have hkb2 : k + 1 ≤ 1000000 := by omega
      repeat' (first | refine yo ?_ ?_ | refine yw ?_ ?_ | refine yk ?_ ?_ | exact trivial | with_reducible refine wA ?_ ?_ | refine ys ?_ ?_ | refine xs_done ?_ | refine yl ?_ ?_ | refine w8 ?_ | refine w9 ?_ | refine w1 ?_ | refine w2 ?_ | refine w3 ?_ | refine w4 ?_ | refine w5 ?_ | refine w6 ?_ | refine w7 ?_ | refine yo0 ?_ ?_ | refine yw0 ?_ ?_ | exact qq | fail)
      refine ocan0 (can_frz [1, 2] (by intro l hl; rw [hk]; simp at hl; show 1 ≤ l; omega) rfl (tm := [(47, .lsl 3 0 (k + 1)), (48, .clo 25 2 (nthP [cLR r, cLast last]))]) (by exact ⟨.inl rfl, .inr (argClo fun i hi => by
        have hi : i < 2 := hi
        rcases (by omega : i = 0 ∨ i = 1) with rfl | rfl
        · exact argPtr rfl trivial (by decide) (Nat.le_refl _) rfl (fun a ha b hb => argCl (clL_nth _ b ⟨trivial, trivial, trivial, trivial, trivial, trivial, trivial, trivial, trivial⟩))
        · exact argPtr rfl trivial (by decide) (Nat.le_refl _) rfl (fun a ha b hb => argCl (clL_nth _ b ⟨trivial, trivial⟩))), trivial⟩)) ?_
      refine ocan0 (can_rowsv [0, 3] (rows := [mRow kI m, iRow (k + 1) (lF 0 D)]) (tm := [(47, .lsl 1 0 (k + 1)), (48, .clo 25 2 (nthP [cLR r, cLast last]))]) (k0_sel hk rfl) rfl (.cons rfl m_eq (.cons rfl (i_eq (Nat.le_refl _) fun a ha => rfl) .nil)) (by exact ⟨PEq.refl _, (evPrd r last).eq, trivial⟩)) ?_
      refine pop_rowsc [1] rfl rfl rfl rfl rfl rfl (.cons rfl trivial (RowEq.cl (i_cl _ _)) .nil) (deleteFunc_r (k + 1) D hkl _ _ _ (evPrd r last) (by omega)) (by exact ⟨PEq.refl _, PEq.clo (fun i hi => by rcases (by omega : i = 0 ∨ i = 1) with rfl | rfl <;> exact PEq.refl _), trivial⟩) ?_
      rintro _ _ ⟨rfl, rfl⟩
      refine ⟨_, _, rfl, ⟨i_cl _ _, trivial⟩, rfl, ?_⟩
      have hMl : (D.filter fun x => !outS r last x).length ≤ k + 1 := by rw [← hkl]; exact List.length_filter_le _ _
      have hMm : ∀ x, x ∈ (D.filter fun x => !outS r last x) ↔ r.frm ≤ x ∧ x ≤ last ∧ (x ∈ evS r last ∨ x ∈ m.map (·.1)) := fun x => by
        rw [List.mem_filter, hDm]
        unfold outS
        simp only [Bool.not_not, Bool.and_eq_true, decide_eq_true_eq]
        constructor
        · rintro ⟨a, b, c⟩; exact ⟨b, c, a⟩
        · rintro ⟨a, b, c⟩; exact ⟨c, a, b⟩
      generalize (D.filter fun x => !outS r last x) = M at *
      repeat' (first | refine yo ?_ ?_ | refine yw ?_ ?_ | refine yk ?_ ?_ | exact trivial | with_reducible refine wA ?_ ?_ | refine ys ?_ ?_ | refine xs_done ?_ | refine yl ?_ ?_ | refine w8 ?_ | refine w9 ?_ | refine w1 ?_ | refine w2 ?_ | refine w3 ?_ | refine w4 ?_ | refine w5 ?_ | refine w6 ?_ | refine w7 ?_ | refine yo0 ?_ ?_ | refine yw0 ?_ ?_ | exact qq | fail)
      refine pop_sort sortC rfl rfl rfl rfl rfl rfl (D := M) rfl (by omega) rfl rfl ?_
      repeat' (first | refine yo ?_ ?_ | refine yw ?_ ?_ | refine yk ?_ ?_ | exact trivial | with_reducible refine wA ?_ ?_ | refine ys ?_ ?_ | refine xs_done ?_ | refine yl ?_ ?_ | refine w8 ?_ | refine w9 ?_ | refine w1 ?_ | refine w2 ?_ | refine w3 ?_ | refine w4 ?_ | refine w5 ?_ | refine w6 ?_ | refine w7 ?_ | refine yo0 ?_ ?_ | refine yw0 ?_ ?_ | exact qq | fail)
      refine pop_rowsc [1] rfl rfl rfl rfl rfl rfl (.cons rfl trivial (RowEq.cl (i_cl _ _)) .nil) (compact_r M.length (sortL M) (sortL_len M) (sortL_sorted M) (by omega)) (by exact ⟨PEq.refl _, trivial⟩) ?_
      rintro _ _ ⟨C, hC, rfl, rfl⟩
      refine ⟨_, _, rfl, ⟨i_cl _ _, trivial⟩, rfl, ?_⟩
      have hCe : C = dsS r (m.map (·.1)) last := ds_uniq hC.srt fun x => by rw [hC.mem, (sortL_perm M).mem_iff, hMm]
      rw [← hCe]
      clear hCe
      repeat' (first | refine yo ?_ ?_ | refine yw ?_ ?_ | refine yk ?_ ?_ | exact trivial | with_reducible refine wA ?_ ?_ | refine ys ?_ ?_ | refine xs_done ?_ | refine yl ?_ ?_ | refine w8 ?_ | refine w9 ?_ | refine w1 ?_ | refine w2 ?_ | refine w3 ?_ | refine w4 ?_ | refine w5 ?_ | refine w6 ?_ | refine w7 ?_ | refine yo0 ?_ ?_ | refine yw0 ?_ ?_ | exact qq | fail)
      refine xdone ?_
      refine kretr (st' := ⟨[(6, vDay C)], [mRow kI m]⟩) ((can_frz [1] (by intro l hl; rw [hk]; simp at hl; show 1 ≤ l; omega) rfl (tm := [(6, vDay C)]) (by exact ⟨.inr (argLsl (r := iRow C.length (lF 0 C)) rfl trivial (List.Mem.head _) (by show 0 + C.length ≤ C.length; omega) (fun a ha b hb => ⟨by rw [Nat.zero_add]; rfl, trivial⟩)), trivial⟩)).trans (can_rowsv [0] (k0_sel hk rfl) rfl (.cons rfl m_eq .nil) (by exact ⟨PEq.refl _, trivial⟩))) rfl ⟨trivial, trivial⟩ rfl ⟨rfl, rfl⟩
    · intro j2 kk v hj2 hnj
      have e2 : E ++ keysAt m (s ++ [j2]) = (E ++ keysAt m s) ++ [kk] := by rw [keysAt_snoc hj2, List.append_assoc]
      have hj2l : j2 < m.length := (List.getElem?_eq_some_iff.1 hj2).1
      have hnd : (s ++ [j2]).Nodup := by
        rw [List.nodup_append]
        exact ⟨hs1, by simp, fun a ha b hb => by rw [List.mem_singleton.1 hb]; rintro rfl; exact hnj ha⟩
      have hs3 : ∀ j, j ∈ s ++ [j2] → j < m.length := fun j hj => by
        rcases List.mem_append.1 hj with h | h
        · exact hs2 j h
        · rw [List.mem_singleton.1 h]; exact hj2l
      have hsl2 := nodup_lt_len hnd hs3
      have hsl3 : (s ++ [j2]).length = s.length + 1 := by simp
      repeat' (first | refine yo ?_ ?_ | refine yw ?_ ?_ | refine yk ?_ ?_ | exact trivial | with_reducible refine wA ?_ ?_ | refine ys ?_ ?_ | refine xs_done ?_ | refine yl ?_ ?_ | refine w8 ?_ | refine w9 ?_ | refine w1 ?_ | refine w2 ?_ | refine w3 ?_ | refine w4 ?_ | refine w5 ?_ | refine w6 ?_ | refine w7 ?_ | refine yo0 ?_ ?_ | refine yw0 ?_ ?_ | exact qq | fail)
      refine pop_entry rfl rfl rfl rfl rfl rfl rfl hj2 ?_
      repeat' (first | refine yo ?_ ?_ | refine yw ?_ ?_ | refine yk ?_ ?_ | exact trivial | with_reducible refine wA ?_ ?_ | refine ys ?_ ?_ | refine xs_done ?_ | refine yl ?_ ?_ | exact ⟨Nat.le_refl _, (by rw [hk]; exact Nat.le_of_ble_eq_true rfl), Nat.le_of_eq (Nat.zero_add _), (show (_ : Nat) * 8 ≤ 140737488355328 from by omega), (show (_ : Nat) ≤ 9223372036854775807 from by omega)⟩ | refine w8 ?_ | refine w9 ?_ | refine w1 ?_ | refine w2 ?_ | refine w3 ?_ | refine w4 ?_ | refine w5 ?_ | refine w6 ?_ | refine w7 ?_ | refine yo0 ?_ ?_ | refine yw0 ?_ ?_ | exact qq | fail)
      exact kloop_next (st' := ⟨[(1, .mref 0), (3, .ptr 1 0 0), (5, .ptr 2 0 0), (7, slP (k + 1 + 1) 3), (38, .ptr 4 0 0)], [mRow kI m, rLR r, rLast last, vRow c1 1 (k + 1 + 1) (lF 0 (E ++ keysAt m (s ++ [j2]))), itRow 4 0 (s ++ [j2])]⟩) (m.length - (s ++ [j2]).length) (can_rowsv [0, 1, 2, 6, 4] (k0_sel hk rfl) rfl (.cons rfl m_eq (.cons rfl rqq (.cons rfl rqq (.cons rfl (by rw [e2]; exact app_l c1_cl hkl rfl rfl) (.cons rfl (it_eq rfl rfl) .nil))))) tmq) (by omega) ⟨s ++ [j2], k + 1, hnd, hs3, by rw [e2, List.length_append, hkl]; rfl, by omega, rfl, rfl⟩
end Go.Proofs.YtpaeomgnmimjoaaDoor
