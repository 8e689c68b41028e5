/- The library's rotate. -/
import Derived.Test.YtppjjhnaahgmhaaSym1
set_option linter.unusedSimpArgs false
set_option linter.unusedVariables false
set_option maxRecDepth 100000
namespace Go.Proofs.Ytppjjhnaahgmhaa
theorem gapp (A B : List Nat) (x : Nat) : (A ++ B).getD x 0 = if x < A.length then A.getD x 0 else B.getD (x - A.length) 0 := by
  simp only [List.getD_eq_getElem?_getD]
  split
  · rw [List.getElem?_append_left (by assumption)]
  · rw [List.getElem?_append_right (by omega)]
theorem lN_eq (L : List Nat) (x : Nat) : lN L x = ((L.getD x 0 : Nat) : Int) := rfl
theorem swp_lists {P U Q V S : List Nat} {a b n : Nat} (ha : a = P.length) (hb : b = P.length + U.length + Q.length) (hu : U.length = n) (hv : V.length = n) {x : Nat} (hx : x < (P ++ (U ++ (Q ++ (V ++ S)))).length) : swpI (lN (P ++ (U ++ (Q ++ (V ++ S))))) a b n x = lN (P ++ (V ++ (Q ++ (U ++ S)))) x := by
  simp only [List.length_append] at hx
  subst ha hb
  unfold swpI
  simp only [lN_eq, gapp]
  by_cases h1 : x < P.length
  · repeat (first | rw [if_pos (by omega)] | rw [if_neg (by omega)])
  · by_cases h2 : x < P.length + n
    · rw [if_pos (by omega)]
      repeat (first | rw [if_pos (by omega)] | rw [if_neg (by omega)])
      congr 2
      omega
    · by_cases h3 : x < P.length + n + Q.length
      · repeat (first | rw [if_pos (by omega)] | rw [if_neg (by omega)])
        congr 2
        omega
      · by_cases h4 : x < P.length + n + Q.length + n
        · repeat (first | rw [if_pos (by omega)] | rw [if_neg (by omega)])
          congr 2
          omega
        · repeat (first | rw [if_pos (by omega)] | rw [if_neg (by omega)])
          congr 2
          omega
/-- what is left of a rotation -/
structure RotI (N m : Nat) (R L : List Nat) (P X Y S : List Nat) (i j : Nat) : Prop where
  hl : L = P ++ (X ++ (Y ++ S))
  hr : P ++ (Y ++ (X ++ S)) = R
  hm : P.length + X.length = m
  hi : X.length = i
  hj : Y.length = j
  hi0 : 0 < i
  hj0 : 0 < j
  hn : L.length = N
theorem RotI.gt {N m : Nat} {R L P X Y S : List Nat} {i j : Nat} (h : RotI N m R L P X Y S i j) (hij : j < i) : RotI N m R (P ++ (Y ++ (X.drop j ++ (X.take j ++ S)))) (P ++ Y) (X.drop j) (X.take j) S (i - j) j ∧ ∀ x, x < N → swpI (lN L) P.length m j x = lN (P ++ (Y ++ (X.drop j ++ (X.take j ++ S)))) x := by
  obtain ⟨hl, hr, hm, hi, hj, i0, j0, hn⟩ := h
  have e1 : (X.take j).length = j := by rw [List.length_take]; omega
  have e2 : (X.drop j).length = i - j := by rw [List.length_drop]; omega
  have e3 : X.take j ++ X.drop j = X := List.take_append_drop j X
  have el : L = P ++ (X.take j ++ (X.drop j ++ (Y ++ S))) := by rw [hl, ← List.append_assoc (X.take j), e3]
  refine ⟨⟨by simp, ?_, ?_, e2, e1, by omega, j0, ?_⟩, fun x hx => ?_⟩
  · rw [← hr, List.append_assoc, ← List.append_assoc (X.take j), e3]
  · rw [List.length_append, e2]; omega
  · rw [← hn, hl]; simp only [List.length_append, e1, e2]; omega
  · rw [el]
    refine swp_lists rfl (by rw [e1, e2]; omega) e1 hj ?_
    rw [← el, hn]; exact hx
theorem RotI.lt {N m : Nat} {R L P X Y S : List Nat} {i j : Nat} (h : RotI N m R L P X Y S i j) (hij : i < j) : RotI N m R (P ++ (Y.drop (j - i) ++ (Y.take (j - i) ++ (X ++ S)))) P (Y.drop (j - i)) (Y.take (j - i)) (X ++ S) i (j - i) ∧ ∀ x, x < N → swpI (lN L) P.length (m + j - i) i x = lN (P ++ (Y.drop (j - i) ++ (Y.take (j - i) ++ (X ++ S)))) x := by
  obtain ⟨hl, hr, hm, hi, hj, i0, j0, hn⟩ := h
  have e1 : (Y.take (j - i)).length = j - i := by rw [List.length_take]; omega
  have e2 : (Y.drop (j - i)).length = i := by rw [List.length_drop]; omega
  have e3 : Y.take (j - i) ++ Y.drop (j - i) = Y := List.take_append_drop _ Y
  have el : L = P ++ (X ++ (Y.take (j - i) ++ (Y.drop (j - i) ++ S))) := by rw [hl, ← List.append_assoc (Y.take (j - i)), e3]
  refine ⟨⟨rfl, ?_, ?_, e2, e1, i0, by omega, ?_⟩, fun x hx => ?_⟩
  · rw [← hr, ← List.append_assoc (Y.take (j - i)), e3]
  · rw [e2]; omega
  · rw [← hn, hl]; simp only [List.length_append, e1, e2]; omega
  · rw [el]
    refine swp_lists rfl (by rw [e1]; omega) hi e2 ?_
    rw [← el, hn]; exact hx
theorem RotI.eq {N m : Nat} {R L P X Y S : List Nat} {i j : Nat} (h : RotI N m R L P X Y S i j) (hij : i = j) : ∀ x, x < N → swpI (lN L) P.length m i x = lN R x := by
  obtain ⟨hl, hr, hm, hi, hj, i0, j0, hn⟩ := h
  intro x hx
  have := swp_lists (P := P) (U := X) (Q := []) (V := Y) (S := S) (a := P.length) (b := m) (n := i) rfl (by simp; omega) hi (by omega) (x := x) (by simp only [List.nil_append]; rw [← hl, hn]; exact hx)
  simp only [List.nil_append] at this
  rw [hl, this, hr]
set_option maxHeartbeats 2000000 in
theorem rotate_c (F : FuncId) (cap : PV) (hcap : clB cap = true) (N : Nat) (P X Y S : List Nat) (hX : 0 < X.length) (hY : 0 < Y.length) (hn : (P ++ (X ++ (Y ++ S))).length = N) (hN : N ≤ 1000000) :
    RowsC G.P 63 [iRow N (lN (P ++ (X ++ (Y ++ S))))] [.lsl 0 0 N, vi P.length, vi ((P.length + X.length : Nat) : Int), vi ((P.length + X.length + Y.length : Nat) : Int), .clo F 1 (fun _ => cap)] (fun r rows => r = .tup 0 (nthP []) ∧ rows = [iRow N (lN (P ++ (Y ++ (X ++ S))))]) := by
  have hclo : Cl (.clo F 1 (fun _ => cap)) := fun _ _ => clB_spec cap hcap
  have hlen := hn
  simp only [List.length_append] at hlen
  obtain ⟨R, hR⟩ : ∃ R, R = P ++ (Y ++ (X ++ S)) := ⟨_, rfl⟩
  obtain ⟨m, hm⟩ : ∃ m, m = P.length + X.length := ⟨_, rfl⟩
  rw [← hR, ← hm]
  have hw1 : IntKind.i64.wrap ((m : Int) - (P.length : Int)) = (X.length : Int) := by rw [w64 (by omega) (by omega)]; omega
  have hw2 : IntKind.i64.wrap (((m + Y.length : Nat) : Int) - (m : Int)) = (Y.length : Int) := by rw [w64 (by omega) (by omega)]; omega
  refine rows_of (G := G.toPg) (fn := Try.f63) Try.func63 rfl rfl rfl ?_; intro Γ hk
  repeat' (first | refine xo 4000 rfl ?_ ?_ | refine xw 4000 rfl ?_ ?_ | refine xk 4000 rfl ?_ ?_ | exact trivial | ((with_reducible (show AllP (_ :: _))); refine And.intro ?_ ?_) | refine xs rfl ?_ ?_ | refine xs_done ?_ | refine pcond_t rfl ?_ | refine pcond_f rfl ?_ | refine kround_exit ?_ | refine kround_ret ?_ | refine kround_next ?_ | refine kloop_ret ?_ | refine kloop_exit ?_ | refine kcut_ret ?_ | refine kcut_exit ?_ | refine xo0 4000 rfl ?_ ?_ | refine xw0 4000 rfl ?_ ?_ | exact qq | fail)
  rw [hw1, hw2]
  refine pcan (st' := ⟨[(0, .lsl 0 0 N), (2, vi m), (4, .clo F 1 (fun _ => cap)), (10, vi X.length), (11, vi Y.length)], [iRow N (lN (P ++ (X ++ (Y ++ S))))]⟩) (can_rowsv [0] (k0_sel hk rfl) rfl (.cons rfl rqq .nil) (by exact ⟨PEq.refl _, PEq.refl _, PEq.cl _ hclo, PEq.refl _, PEq.refl _, trivial⟩)) ?_
  refine ploop (fun q st => ∃ (L P X Y S : List Nat) (i j : Nat), RotI N m R L P X Y S i j ∧ q = i + j ∧ st = ⟨[(0, .lsl 0 0 N), (2, vi m), (4, .clo F 1 (fun _ => cap)), (10, vi i), (11, vi j)], [iRow N (lN L)]⟩) (X.length + Y.length) ⟨_, P, X, Y, S, _, _, ⟨rfl, hR.symm, hm.symm, rfl, rfl, hX, hY, hn⟩, rfl, rfl⟩ ?_
  rintro _ _ ⟨L, P, X, Y, S, i, j, h, rfl, rfl⟩
  have hlen2 := h.hn
  rw [h.hl] at hlen2
  simp only [List.length_append] at hlen2
  have h1 := h.hi; have h2 := h.hj; have h3 := h.hm; have h4 := h.hi0; have h5 := h.hj0
  have hwp : IntKind.i64.wrap ((m : Int) - (i : Int)) = (P.length : Int) := by rw [w64 (by omega) (by omega)]; omega
  repeat' (first | refine xo 4000 rfl ?_ ?_ | refine xw 4000 rfl ?_ ?_ | refine xk 4000 rfl ?_ ?_ | exact trivial | ((with_reducible (show AllP (_ :: _))); refine And.intro ?_ ?_) | refine xs rfl ?_ ?_ | refine xs_done ?_ | refine pcond_t rfl ?_ | refine pcond_f rfl ?_ | refine kround_exit ?_ | refine kround_ret ?_ | refine kround_next ?_ | refine kloop_ret ?_ | refine kloop_exit ?_ | refine kcut_ret ?_ | refine kcut_exit ?_ | refine xo0 4000 rfl ?_ ?_ | refine xw0 4000 rfl ?_ ?_ | exact qq | fail)
  refine pcond rfl ?_ ?_ <;> intro hc
  · have hne : i ≠ j := by
      have hc : ((i : Int) != (j : Int)) = true := hc
      simp at hc; omega
    repeat' (first | refine xo 4000 rfl ?_ ?_ | refine xw 4000 rfl ?_ ?_ | refine xk 4000 rfl ?_ ?_ | exact trivial | ((with_reducible (show AllP (_ :: _))); refine And.intro ?_ ?_) | refine xs rfl ?_ ?_ | refine xs_done ?_ | refine pcond_t rfl ?_ | refine pcond_f rfl ?_ | refine kround_exit ?_ | refine kround_ret ?_ | refine kround_next ?_ | refine kloop_ret ?_ | refine kloop_exit ?_ | refine kcut_ret ?_ | refine kcut_exit ?_ | refine xo0 4000 rfl ?_ ?_ | refine xw0 4000 rfl ?_ ?_ | exact qq | fail)
    refine pcond rfl ?_ ?_ <;> intro hc2 <;> simp at hc2
    · obtain ⟨g1, g2⟩ := h.gt hc2
      have hw3 : IntKind.i64.wrap ((i : Int) - (j : Int)) = ((i - j : Nat) : Int) := by rw [w64 (by omega) (by omega)]; omega
      repeat' (first | refine xo 4000 rfl ?_ ?_ | refine xw 4000 rfl ?_ ?_ | refine xk 4000 rfl ?_ ?_ | exact trivial | ((with_reducible (show AllP (_ :: _))); refine And.intro ?_ ?_) | refine xs rfl ?_ ?_ | refine xs_done ?_ | refine pcond_t rfl ?_ | refine pcond_f rfl ?_ | refine kround_exit ?_ | refine kround_ret ?_ | refine kround_next ?_ | refine kloop_ret ?_ | refine kloop_exit ?_ | refine kcut_ret ?_ | refine kcut_exit ?_ | refine xo0 4000 rfl ?_ ?_ | refine xw0 4000 rfl ?_ ?_ | exact qq | fail)
      rw [hwp]
      refine pop_rowsc [0] rfl rfl rfl rfl rfl rfl (.cons rfl trivial (RowEq.cl (i_cl _ _)) .nil) (swapRange_c F cap hcap N (lN L) P.length m j (by omega) (by omega) hN) ⟨PEq.refl _, PEq.refl _, PEq.refl _, PEq.refl _, PEq.cl _ hclo, trivial⟩ ?_
      rintro r rows ⟨rfl, rfl⟩
      refine ⟨_, _, rfl, ⟨i_cl _ _, trivial⟩, rfl, ?_⟩
      repeat' (first | refine xo 4000 rfl ?_ ?_ | refine xw 4000 rfl ?_ ?_ | refine xk 4000 rfl ?_ ?_ | exact trivial | ((with_reducible (show AllP (_ :: _))); refine And.intro ?_ ?_) | refine xs rfl ?_ ?_ | refine xs_done ?_ | refine pcond_t rfl ?_ | refine pcond_f rfl ?_ | refine kround_exit ?_ | refine kround_ret ?_ | refine kround_next ?_ | refine kloop_ret ?_ | refine kloop_exit ?_ | refine kcut_ret ?_ | refine kcut_exit ?_ | refine xo0 4000 rfl ?_ ?_ | refine xw0 4000 rfl ?_ ?_ | exact qq | fail)
      rw [hw3]
      exact kloop_next (st' := ⟨[(0, .lsl 0 0 N), (2, vi m), (4, .clo F 1 (fun _ => cap)), (10, vi ((i - j : Nat) : Int)), (11, vi j)], [iRow N (lN _)]⟩) _ (can_rowsv [0] (k0_sel hk rfl) rfl (.cons rfl (i_eq (Nat.le_refl _) (fun x hx => by show vi _ = vi _; rw [g2 x hx])) .nil) (by exact ⟨PEq.refl _, PEq.refl _, PEq.cl _ hclo, PEq.refl _, PEq.refl _, trivial⟩)) (by omega) ⟨_, _, _, _, _, _, _, g1, rfl, rfl⟩
    · obtain ⟨g1, g2⟩ := h.lt (show i < j by omega)
      have hw3 : IntKind.i64.wrap ((j : Int) - (i : Int)) = ((j - i : Nat) : Int) := by rw [w64 (by omega) (by omega)]; omega
      have hw4 : IntKind.i64.wrap (IntKind.i64.wrap ((m : Int) + (j : Int)) - (i : Int)) = ((m + j - i : Nat) : Int) := by
        rw [w64 (n := (m : Int) + (j : Int)) (by omega) (by omega), w64 (by omega) (by omega)]; omega
      repeat' (first | refine xo 4000 rfl ?_ ?_ | refine xw 4000 rfl ?_ ?_ | refine xk 4000 rfl ?_ ?_ | exact trivial | ((with_reducible (show AllP (_ :: _))); refine And.intro ?_ ?_) | refine xs rfl ?_ ?_ | refine xs_done ?_ | refine pcond_t rfl ?_ | refine pcond_f rfl ?_ | refine kround_exit ?_ | refine kround_ret ?_ | refine kround_next ?_ | refine kloop_ret ?_ | refine kloop_exit ?_ | refine kcut_ret ?_ | refine kcut_exit ?_ | refine xo0 4000 rfl ?_ ?_ | refine xw0 4000 rfl ?_ ?_ | exact qq | fail)
      rw [hwp, hw4]
      refine pop_rowsc [0] rfl rfl rfl rfl rfl rfl (.cons rfl trivial (RowEq.cl (i_cl _ _)) .nil) (swapRange_c F cap hcap N (lN L) P.length (m + j - i) i (by omega) (by omega) hN) ⟨PEq.refl _, PEq.refl _, PEq.refl _, PEq.refl _, PEq.cl _ hclo, trivial⟩ ?_
      rintro r rows ⟨rfl, rfl⟩
      refine ⟨_, _, rfl, ⟨i_cl _ _, trivial⟩, rfl, ?_⟩
      repeat' (first | refine xo 4000 rfl ?_ ?_ | refine xw 4000 rfl ?_ ?_ | refine xk 4000 rfl ?_ ?_ | exact trivial | ((with_reducible (show AllP (_ :: _))); refine And.intro ?_ ?_) | refine xs rfl ?_ ?_ | refine xs_done ?_ | refine pcond_t rfl ?_ | refine pcond_f rfl ?_ | refine kround_exit ?_ | refine kround_ret ?_ | refine kround_next ?_ | refine kloop_ret ?_ | refine kloop_exit ?_ | refine kcut_ret ?_ | refine kcut_exit ?_ | refine xo0 4000 rfl ?_ ?_ | refine xw0 4000 rfl ?_ ?_ | exact qq | fail)
      rw [hw3]
      exact kloop_next (st' := ⟨[(0, .lsl 0 0 N), (2, vi m), (4, .clo F 1 (fun _ => cap)), (10, vi i), (11, vi ((j - i : Nat) : Int))], [iRow N (lN _)]⟩) _ (can_rowsv [0] (k0_sel hk rfl) rfl (.cons rfl (i_eq (Nat.le_refl _) (fun x hx => by show vi _ = vi _; rw [g2 x hx])) .nil) (by exact ⟨PEq.refl _, PEq.refl _, PEq.cl _ hclo, PEq.refl _, PEq.refl _, trivial⟩)) (by omega) ⟨_, _, _, _, _, _, _, g1, rfl, rfl⟩
  · have hij : i = j := by
      have hc : ((i : Int) != (j : Int)) = false := hc
      simp at hc; omega
    have g := h.eq hij
    repeat' (first | refine xo 4000 rfl ?_ ?_ | refine xw 4000 rfl ?_ ?_ | refine xk 4000 rfl ?_ ?_ | exact trivial | ((with_reducible (show AllP (_ :: _))); refine And.intro ?_ ?_) | refine xs rfl ?_ ?_ | refine xs_done ?_ | refine pcond_t rfl ?_ | refine pcond_f rfl ?_ | refine kround_exit ?_ | refine kround_ret ?_ | refine kround_next ?_ | refine kloop_ret ?_ | refine kloop_exit ?_ | refine kcut_ret ?_ | refine kcut_exit ?_ | refine xo0 4000 rfl ?_ ?_ | refine xw0 4000 rfl ?_ ?_ | exact qq | fail)
    rw [hwp]
    refine pop_rowsc [0] rfl rfl rfl rfl rfl rfl (.cons rfl trivial (RowEq.cl (i_cl _ _)) .nil) (swapRange_c F cap hcap N (lN L) P.length m i (by omega) (by omega) hN) ⟨PEq.refl _, PEq.refl _, PEq.refl _, PEq.refl _, PEq.cl _ hclo, trivial⟩ ?_
    rintro r rows ⟨rfl, rfl⟩
    refine ⟨_, _, rfl, ⟨i_cl _ _, trivial⟩, rfl, ?_⟩
    repeat' (first | refine xo 4000 rfl ?_ ?_ | refine xw 4000 rfl ?_ ?_ | refine xk 4000 rfl ?_ ?_ | exact trivial | ((with_reducible (show AllP (_ :: _))); refine And.intro ?_ ?_) | refine xs rfl ?_ ?_ | refine xs_done ?_ | refine pcond_t rfl ?_ | refine pcond_f rfl ?_ | refine kround_exit ?_ | refine kround_ret ?_ | refine kround_next ?_ | refine kloop_ret ?_ | refine kloop_exit ?_ | refine kcut_ret ?_ | refine kcut_exit ?_ | refine xo0 4000 rfl ?_ ?_ | refine xw0 4000 rfl ?_ ?_ | exact qq | fail)
    exact kretrn (st' := ⟨[], [iRow N (lN R)]⟩) (can_rowsv [0] (k0_sel hk rfl) rfl (.cons rfl (i_eq (Nat.le_refl _) (fun x hx => by show vi _ = vi _; rw [g x hx])) .nil) trivial) rfl trivial rfl ⟨rfl, rfl⟩
end Go.Proofs.Ytppjjhnaahgmhaa
