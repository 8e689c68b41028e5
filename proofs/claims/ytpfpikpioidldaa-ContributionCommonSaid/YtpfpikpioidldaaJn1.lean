/- Contributions: jointError, Joint. -/
import Derived.Test.YtpfpikpioidldaaJn0
set_option linter.unusedSimpArgs false
set_option linter.unusedVariables false
set_option maxRecDepth 100000
namespace Go.Proofs.Ytpfpikpioidldaa
def rM (x : Emp) : Row := ⟨.own, true, 1, 2, fun _ => nthP (cM x)⟩
theorem ext_lt {P : Nat → Prop} {i : Nat} (h : ∀ a, a < i → P a) (hi : P i) : ∀ a, a < i + 1 → P a := fun a ha => by
  by_cases e : a = i
  · subst e; exact hi
  · exact h a (by omega)
theorem notB {b : Bool} (h : (!b) = true) : b = false := by cases b <;> simp_all
set_option maxHeartbeats 4000000 in
theorem jerr_c (m : Nat) (g : Nat → Emp) (hm : m ≤ 9223372036854775807) (hn : ∀ i, i < m → (g i).n ≤ 9223372036854775807) : PureC G.P 50 [vMs m g] (fun r => r = vi (jeS m g)) := by
  refine pure_of (G := G.toPg) (fn := Try.f50) Try.func50 rfl rfl rfl ?_; intro Γ hk
  repeat' (first | refine xo 4000 rfl ?_ ?_ | refine xw 4000 rfl ?_ ?_ | refine xk 4000 rfl ?_ ?_ | exact trivial | ((with_reducible (show AllP (_ :: _))); refine And.intro ?_ ?_) | refine xs rfl ?_ ?_ | refine xs_done ?_ | refine xs_start (id := 12) true [.take 0, .take 1, .take 2, .take 3, .take 4, .take 5, .take 6, .take 7, .take 8] 0 rfl rfl (by kernel_rfl) ?_ | refine pcond_t rfl ?_ | refine pcond_f rfl ?_ | refine kround_exit ?_ | refine kround_ret ?_ | refine kround_next ?_ | refine kloop_ret ?_ | refine kloop_exit ?_ | refine kcut_ret ?_ | refine kcut_exit ?_ | refine xo0 4000 rfl ?_ ?_ | refine xw0 4000 rfl ?_ ?_ | exact qq | fail)
  refine pcond rfl ?_ ?_ <;> intro hc
  · rw [jeS, if_pos (lenC.1 hc)]
    repeat' (first | refine xo 4000 rfl ?_ ?_ | refine xw 4000 rfl ?_ ?_ | refine xk 4000 rfl ?_ ?_ | exact trivial | ((with_reducible (show AllP (_ :: _))); refine And.intro ?_ ?_) | refine xs rfl ?_ ?_ | refine xs_done ?_ | refine pcond_t rfl ?_ | refine pcond_f rfl ?_ | refine kround_exit ?_ | refine kround_ret ?_ | refine kround_next ?_ | refine kloop_ret ?_ | refine kloop_exit ?_ | refine kcut_ret ?_ | refine kcut_exit ?_ | refine xo0 4000 rfl ?_ ?_ | refine xw0 4000 rfl ?_ ?_ | exact qq | fail)
    exact kretv rfl ⟨trivial, trivial⟩ rfl rfl
  · have hm8 : ¬ (m = 0 ∨ 8 < m) := fun h => by rw [lenC.2 h] at hc; cases hc
    rw [jeS, if_neg hm8]
    repeat' (first | refine xo 4000 rfl ?_ ?_ | refine xw 4000 rfl ?_ ?_ | refine xk 4000 rfl ?_ ?_ | exact trivial | ((with_reducible (show AllP (_ :: _))); refine And.intro ?_ ?_) | refine xs rfl ?_ ?_ | refine xs_done ?_ | refine pcond_t rfl ?_ | refine pcond_f rfl ?_ | refine kround_exit ?_ | refine kround_ret ?_ | refine kround_next ?_ | refine kloop_ret ?_ | refine kloop_exit ?_ | refine kcut_ret ?_ | refine kcut_exit ?_ | refine xo0 4000 rfl ?_ ?_ | refine xw0 4000 rfl ?_ ?_ | exact qq | fail)
    refine pcan (st' := ⟨[(0, vMs m g), (19, vMs m g), (20, vi m), (21, vi 0)], []⟩) (can_rowsv [] (k0_sel hk rfl) rfl (by (repeat (refine SelV.cons rfl rqq ?_)); exact SelV.nil) tmq) ?_
    refine ploop (fun q st => ∃ i : Nat, i ≤ m ∧ (∀ a, a < i → (g a).n < 53) ∧ q = m - i ∧ st = ⟨[(0, vMs m g), (19, vMs m g), (20, vi m), (21, vi i)], []⟩) m ⟨0, by omega, fun a ha => by omega, rfl, rfl⟩ ?_
    rintro _ _ ⟨i, hi, hP, rfl, rfl⟩
    repeat' (first | refine xo 4000 rfl ?_ ?_ | refine xw 4000 rfl ?_ ?_ | refine xk 4000 rfl ?_ ?_ | exact trivial | ((with_reducible (show AllP (_ :: _))); refine And.intro ?_ ?_) | refine xs rfl ?_ ?_ | refine xs_done ?_ | refine pcond_t rfl ?_ | refine pcond_f rfl ?_ | refine kround_exit ?_ | refine kround_ret ?_ | refine kround_next ?_ | refine kloop_ret ?_ | refine kloop_exit ?_ | refine kcut_ret ?_ | refine kcut_exit ?_ | refine xo0 4000 rfl ?_ ?_ | refine xw0 4000 rfl ?_ ?_ | exact qq | fail)
    refine pcond rfl ?_ ?_ <;> intro hc1 <;> simp at hc1
    · have hw : IntKind.i64.wrap ((i : Int) + 1) = ((i + 1 : Nat) : Int) := w64 (by omega) (by omega)
      repeat' (first | refine xo 4000 rfl ?_ ?_ | refine xw 4000 rfl ?_ ?_ | refine xk 4000 rfl ?_ ?_ | exact trivial | ((with_reducible (show AllP (_ :: _))); refine And.intro ?_ ?_) | refine xs rfl ?_ ?_ | refine xs_done ?_ | refine xs_start (id := 12) true [.take 0, .take 1, .take 2, .take 3, .take 4, .take 5, .take 6, .take 7, .take 8] 0 rfl rfl (by kernel_rfl) ?_ | refine pcond_t rfl ?_ | refine pcond_f rfl ?_ | refine kround_exit ?_ | refine kround_ret ?_ | refine kround_next ?_ | refine kloop_ret ?_ | refine kloop_exit ?_ | refine kcut_ret ?_ | refine kcut_exit ?_ | refine xo0 4000 rfl ?_ ?_ | refine xw0 4000 rfl ?_ ?_ | exact qq | fail)
      refine pcond rfl ?_ ?_ <;> intro hc2
      · have h53 : ¬ (g i).n < 53 := by
          have hc2 : decide ((53 : Int) ≤ ((g i).n : Int)) = true := hc2
          simp at hc2; omega
        rw [if_pos (allR_no hc1 (by simpa using h53))]
        repeat' (first | refine xo 4000 rfl ?_ ?_ | refine xw 4000 rfl ?_ ?_ | refine xk 4000 rfl ?_ ?_ | exact trivial | ((with_reducible (show AllP (_ :: _))); refine And.intro ?_ ?_) | refine xs rfl ?_ ?_ | refine xs_done ?_ | refine pcond_t rfl ?_ | refine pcond_f rfl ?_ | refine kround_exit ?_ | refine kround_ret ?_ | refine kround_next ?_ | refine kloop_ret ?_ | refine kloop_exit ?_ | refine kcut_ret ?_ | refine kcut_exit ?_ | refine xo0 4000 rfl ?_ ?_ | refine xw0 4000 rfl ?_ ?_ | exact qq | fail)
        exact kretv rfl ⟨trivial, trivial⟩ rfl rfl
      · have h53 : (g i).n < 53 := by
          have hc2 : decide ((53 : Int) ≤ ((g i).n : Int)) = false := hc2
          simp at hc2; omega
        repeat' (first | refine xo 4000 rfl ?_ ?_ | refine xw 4000 rfl ?_ ?_ | refine xk 4000 rfl ?_ ?_ | exact trivial | ((with_reducible (show AllP (_ :: _))); refine And.intro ?_ ?_) | refine xs rfl ?_ ?_ | refine xs_done ?_ | refine pcond_t rfl ?_ | refine pcond_f rfl ?_ | refine kround_exit ?_ | refine kround_ret ?_ | refine kround_next ?_ | refine kloop_ret ?_ | refine kloop_exit ?_ | refine kcut_ret ?_ | refine kcut_exit ?_ | refine xo0 4000 rfl ?_ ?_ | refine xw0 4000 rfl ?_ ?_ | exact qq | fail)
        rw [hw]
        exact kloop_next (st' := ⟨[(0, vMs m g), (19, vMs m g), (20, vi m), (21, vi ((i + 1 : Nat) : Int))], []⟩) (m - (i + 1)) (can_rowsv [] (k0_sel hk rfl) rfl (by (repeat (refine SelV.cons rfl rqq ?_)); exact SelV.nil) tmq) (by omega) ⟨i + 1, by omega, ext_lt hP h53, rfl, rfl⟩
    · have him : i = m := by omega
      subst him
      have e53 : allR i (fun a => decide ((g a).n < 53)) = true := allR_iff.2 fun a ha => by simpa using hP a ha
      rw [if_neg (by simp [e53])]
      repeat' (first | refine xo 4000 rfl ?_ ?_ | refine xw 4000 rfl ?_ ?_ | refine xk 4000 rfl ?_ ?_ | exact trivial | ((with_reducible (show AllP (_ :: _))); refine And.intro ?_ ?_) | refine xs rfl ?_ ?_ | refine xs_done ?_ | refine pcond_t rfl ?_ | refine pcond_f rfl ?_ | refine kround_exit ?_ | refine kround_ret ?_ | refine kround_next ?_ | refine kloop_ret ?_ | refine kloop_exit ?_ | refine kcut_ret ?_ | refine kcut_exit ?_ | refine xo0 4000 rfl ?_ ?_ | refine xw0 4000 rfl ?_ ?_ | exact qq | fail)
      refine pcan (st' := ⟨[(0, vMs i g), (30, vMs i g), (31, vi i), (32, vi 0)], []⟩) (can_rowsv [] (k0_sel hk rfl) rfl (by (repeat (refine SelV.cons rfl rqq ?_)); exact SelV.nil) tmq) ?_
      refine ploop (fun q st => ∃ j : Nat, j ≤ i ∧ (∀ a, a < j → (g a).n = (g 0).n) ∧ q = i - j ∧ st = ⟨[(0, vMs i g), (30, vMs i g), (31, vi i), (32, vi j)], []⟩) i ⟨0, by omega, fun a ha => by omega, rfl, rfl⟩ ?_
      rintro _ _ ⟨j, hj, hQ, rfl, rfl⟩
      repeat' (first | refine xo 4000 rfl ?_ ?_ | refine xw 4000 rfl ?_ ?_ | refine xk 4000 rfl ?_ ?_ | exact trivial | ((with_reducible (show AllP (_ :: _))); refine And.intro ?_ ?_) | refine xs rfl ?_ ?_ | refine xs_done ?_ | refine pcond_t rfl ?_ | refine pcond_f rfl ?_ | refine kround_exit ?_ | refine kround_ret ?_ | refine kround_next ?_ | refine kloop_ret ?_ | refine kloop_exit ?_ | refine kcut_ret ?_ | refine kcut_exit ?_ | refine xo0 4000 rfl ?_ ?_ | refine xw0 4000 rfl ?_ ?_ | exact qq | fail)
      refine pcond rfl ?_ ?_ <;> intro hc2 <;> simp at hc2
      · have hw : IntKind.i64.wrap ((j : Int) + 1) = ((j + 1 : Nat) : Int) := w64 (by omega) (by omega)
        repeat' (first | refine xo 4000 rfl ?_ ?_ | refine xw 4000 rfl ?_ ?_ | refine xk 4000 rfl ?_ ?_ | exact trivial | ((with_reducible (show AllP (_ :: _))); refine And.intro ?_ ?_) | refine xs rfl ?_ ?_ | refine xs_done ?_ | refine xs_start (id := 12) true [.take 0, .take 1, .take 2, .take 3, .take 4, .take 5, .take 6, .take 7, .take 8] 0 rfl rfl (by kernel_rfl) ?_ | refine pcond_t rfl ?_ | refine pcond_f rfl ?_ | refine kround_exit ?_ | refine kround_ret ?_ | refine kround_next ?_ | refine kloop_ret ?_ | refine kloop_exit ?_ | refine kcut_ret ?_ | refine kcut_exit ?_ | refine xo0 4000 rfl ?_ ?_ | refine xw0 4000 rfl ?_ ?_ | exact qq | fail)
        refine pcond rfl ?_ ?_ <;> intro hc3
        · have hne : ¬ (g j).n = (g 0).n := by
            have hc3 : (((g j).n : Int) != ((g 0).n : Int)) = true := hc3
            simp at hc3; omega
          rw [if_pos (allR_no hc2 (by simpa using hne))]
          repeat' (first | refine xo 4000 rfl ?_ ?_ | refine xw 4000 rfl ?_ ?_ | refine xk 4000 rfl ?_ ?_ | exact trivial | ((with_reducible (show AllP (_ :: _))); refine And.intro ?_ ?_) | refine xs rfl ?_ ?_ | refine xs_done ?_ | refine pcond_t rfl ?_ | refine pcond_f rfl ?_ | refine kround_exit ?_ | refine kround_ret ?_ | refine kround_next ?_ | refine kloop_ret ?_ | refine kloop_exit ?_ | refine kcut_ret ?_ | refine kcut_exit ?_ | refine xo0 4000 rfl ?_ ?_ | refine xw0 4000 rfl ?_ ?_ | exact qq | fail)
          exact kretv rfl ⟨trivial, trivial⟩ rfl rfl
        · have hne : (g j).n = (g 0).n := by
            have hc3 : (((g j).n : Int) != ((g 0).n : Int)) = false := hc3
            simp at hc3; omega
          repeat' (first | refine xo 4000 rfl ?_ ?_ | refine xw 4000 rfl ?_ ?_ | refine xk 4000 rfl ?_ ?_ | exact trivial | ((with_reducible (show AllP (_ :: _))); refine And.intro ?_ ?_) | refine xs rfl ?_ ?_ | refine xs_done ?_ | refine pcond_t rfl ?_ | refine pcond_f rfl ?_ | refine kround_exit ?_ | refine kround_ret ?_ | refine kround_next ?_ | refine kloop_ret ?_ | refine kloop_exit ?_ | refine kcut_ret ?_ | refine kcut_exit ?_ | refine xo0 4000 rfl ?_ ?_ | refine xw0 4000 rfl ?_ ?_ | exact qq | fail)
          rw [hw]
          exact kloop_next (st' := ⟨[(0, vMs i g), (30, vMs i g), (31, vi i), (32, vi ((j + 1 : Nat) : Int))], []⟩) (i - (j + 1)) (can_rowsv [] (k0_sel hk rfl) rfl (by (repeat (refine SelV.cons rfl rqq ?_)); exact SelV.nil) tmq) (by omega) ⟨j + 1, by omega, ext_lt hQ hne, rfl, rfl⟩
      · have hji : j = i := by omega
        subst hji
        have eq : allR j (fun a => decide ((g a).n = (g 0).n)) = true := allR_iff.2 fun a ha => by simpa using hQ a ha
        rw [if_neg (by simp [eq])]
        repeat' (first | refine xo 4000 rfl ?_ ?_ | refine xw 4000 rfl ?_ ?_ | refine xk 4000 rfl ?_ ?_ | exact trivial | ((with_reducible (show AllP (_ :: _))); refine And.intro ?_ ?_) | refine xs rfl ?_ ?_ | refine xs_done ?_ | refine pcond_t rfl ?_ | refine pcond_f rfl ?_ | refine kround_exit ?_ | refine kround_ret ?_ | refine kround_next ?_ | refine kloop_ret ?_ | refine kloop_exit ?_ | refine kcut_ret ?_ | refine kcut_exit ?_ | refine xo0 4000 rfl ?_ ?_ | refine xw0 4000 rfl ?_ ?_ | exact qq | fail)
        refine pcan (st' := ⟨[(46, vMs j g), (47, vi j), (48, vi 0)], []⟩) (can_rowsv [] (k0_sel hk rfl) rfl (by (repeat (refine SelV.cons rfl rqq ?_)); exact SelV.nil) tmq) ?_
        refine ploop (fun q st => ∃ t : Nat, t ≤ j ∧ (∀ a, a < t → empB (g a) = true) ∧ q = j - t ∧ st = ⟨[(46, vMs j g), (47, vi j), (48, vi t)], []⟩) j ⟨0, by omega, fun a ha => by omega, rfl, rfl⟩ ?_
        rintro _ _ ⟨t, ht, hR, rfl, rfl⟩
        repeat' (first | refine xo 4000 rfl ?_ ?_ | refine xw 4000 rfl ?_ ?_ | refine xk 4000 rfl ?_ ?_ | exact trivial | ((with_reducible (show AllP (_ :: _))); refine And.intro ?_ ?_) | refine xs rfl ?_ ?_ | refine xs_done ?_ | refine pcond_t rfl ?_ | refine pcond_f rfl ?_ | refine kround_exit ?_ | refine kround_ret ?_ | refine kround_next ?_ | refine kloop_ret ?_ | refine kloop_exit ?_ | refine kcut_ret ?_ | refine kcut_exit ?_ | refine xo0 4000 rfl ?_ ?_ | refine xw0 4000 rfl ?_ ?_ | exact qq | fail)
        refine pcond rfl ?_ ?_ <;> intro hc3 <;> simp at hc3
        · have hw : IntKind.i64.wrap ((t : Int) + 1) = ((t + 1 : Nat) : Int) := w64 (by omega) (by omega)
          have ht53 := hP t hc3
          repeat' (first | refine xo 4000 rfl ?_ ?_ | refine xw 4000 rfl ?_ ?_ | refine xk 4000 rfl ?_ ?_ | exact trivial | ((with_reducible (show AllP (_ :: _))); refine And.intro ?_ ?_) | refine xs rfl ?_ ?_ | refine xs_done ?_ | refine pop_callv rfl rfl rfl rfl rfl (earnings_c _) rfl rfl rfl ?_ | refine xs_call rfl rfl rfl rfl rfl rfl (earnings_c _) rfl rfl rfl ?_ | refine xs_one (ch := []) rfl rfl rfl (pst_callv rfl rfl rfl rfl rfl (earnings_c _) rfl rfl rfl ?_) | refine pop_callgv rfl rfl rfl rfl rfl rfl (fun _ => earnings_c _) (by first | exact fun h => ⟨h, trivial⟩ | exact fun _ => trivial | exact fun h => ⟨h, h, trivial⟩) rfl rfl rfl ?_ | refine xs_one (ch := []) rfl rfl rfl (pst_callgv rfl rfl rfl rfl rfl rfl (fun _ => earnings_c _) (by first | exact fun h => ⟨h, trivial⟩ | exact fun _ => trivial | exact fun h => ⟨h, h, trivial⟩) rfl rfl rfl ?_) | refine pcond_t rfl ?_ | refine pcond_f rfl ?_ | refine kround_exit ?_ | refine kround_ret ?_ | refine kround_next ?_ | refine kloop_ret ?_ | refine kloop_exit ?_ | refine kcut_ret ?_ | refine kcut_exit ?_ | refine xo0 4000 rfl ?_ ?_ | refine xw0 4000 rfl ?_ ?_ | exact qq | fail)
          refine pcond rfl ?_ ?_ <;> intro hc4
          · have hb : amtB (g t).b = false := by
              have hc4 : (!amtB (g t).b) = true := hc4
              exact notB hc4
            rw [if_pos (allR_no hc3 (by simp [empB, hb]))]
            repeat' (first | refine xo 4000 rfl ?_ ?_ | refine xw 4000 rfl ?_ ?_ | refine xk 4000 rfl ?_ ?_ | exact trivial | ((with_reducible (show AllP (_ :: _))); refine And.intro ?_ ?_) | refine xs rfl ?_ ?_ | refine xs_done ?_ | refine pcond_t rfl ?_ | refine pcond_f rfl ?_ | refine kround_exit ?_ | refine kround_ret ?_ | refine kround_next ?_ | refine kloop_ret ?_ | refine kloop_exit ?_ | refine kcut_ret ?_ | refine kcut_exit ?_ | refine xo0 4000 rfl ?_ ?_ | refine xw0 4000 rfl ?_ ?_ | exact qq | fail)
            exact kretv rfl ⟨trivial, trivial⟩ rfl rfl
          · have hb : amtB (g t).b = true := by
              have hc4 : (!decide (0 ≤ (g t).b ∧ (g t).b ≤ 1000000000)) = false := hc4
              unfold amtB; simpa using hc4
            repeat' (first | refine xo 4000 rfl ?_ ?_ | refine xw 4000 rfl ?_ ?_ | refine xk 4000 rfl ?_ ?_ | exact trivial | ((with_reducible (show AllP (_ :: _))); refine And.intro ?_ ?_) | refine xs rfl ?_ ?_ | refine xs_done ?_ | refine pcond_t rfl ?_ | refine pcond_f rfl ?_ | refine kround_exit ?_ | refine kround_ret ?_ | refine kround_next ?_ | refine kloop_ret ?_ | refine kloop_exit ?_ | refine kcut_ret ?_ | refine kcut_exit ?_ | refine xo0 4000 rfl ?_ ?_ | refine xw0 4000 rfl ?_ ?_ | exact qq | fail)
            refine pcan (st' := ⟨[(46, vMs j g), (47, vi j), (48, vi t), (57, .vsl (g t).n 1 (tI (g t).e)), (58, vi (g t).n), (59, vi 0)], []⟩) (can_rowsv [] (k0_sel hk rfl) rfl (by (repeat (refine SelV.cons rfl rqq ?_)); exact SelV.nil) tmq) ?_
            refine ploop (fun q st => ∃ u : Nat, u ≤ (g t).n ∧ (∀ a, a < u → amtB ((g t).e a) = true) ∧ q = (g t).n - u ∧ st = ⟨[(46, vMs j g), (47, vi j), (48, vi t), (57, .vsl (g t).n 1 (tI (g t).e)), (58, vi (g t).n), (59, vi u)], []⟩) (g t).n ⟨0, by omega, fun a ha => by omega, rfl, rfl⟩ ?_
            rintro _ _ ⟨u, hu, hS, rfl, rfl⟩
            repeat' (first | refine xo 4000 rfl ?_ ?_ | refine xw 4000 rfl ?_ ?_ | refine xk 4000 rfl ?_ ?_ | exact trivial | ((with_reducible (show AllP (_ :: _))); refine And.intro ?_ ?_) | refine xs rfl ?_ ?_ | refine xs_done ?_ | refine pcond_t rfl ?_ | refine pcond_f rfl ?_ | refine kround_exit ?_ | refine kround_ret ?_ | refine kround_next ?_ | refine kloop_ret ?_ | refine kloop_exit ?_ | refine kcut_ret ?_ | refine kcut_exit ?_ | refine xo0 4000 rfl ?_ ?_ | refine xw0 4000 rfl ?_ ?_ | exact qq | fail)
            refine pcond rfl ?_ ?_ <;> intro hc5 <;> simp at hc5
            · have hw2 : IntKind.i64.wrap ((u : Int) + 1) = ((u + 1 : Nat) : Int) := w64 (by omega) (by omega)
              repeat' (first | refine xo 4000 rfl ?_ ?_ | refine xw 4000 rfl ?_ ?_ | refine xk 4000 rfl ?_ ?_ | exact trivial | ((with_reducible (show AllP (_ :: _))); refine And.intro ?_ ?_) | refine xs rfl ?_ ?_ | refine xs_done ?_ | refine pop_callv rfl rfl rfl rfl rfl (earnings_c _) rfl rfl rfl ?_ | refine xs_call rfl rfl rfl rfl rfl rfl (earnings_c _) rfl rfl rfl ?_ | refine xs_one (ch := []) rfl rfl rfl (pst_callv rfl rfl rfl rfl rfl (earnings_c _) rfl rfl rfl ?_) | refine pop_callgv rfl rfl rfl rfl rfl rfl (fun _ => earnings_c _) (by first | exact fun h => ⟨h, trivial⟩ | exact fun _ => trivial | exact fun h => ⟨h, h, trivial⟩) rfl rfl rfl ?_ | refine xs_one (ch := []) rfl rfl rfl (pst_callgv rfl rfl rfl rfl rfl rfl (fun _ => earnings_c _) (by first | exact fun h => ⟨h, trivial⟩ | exact fun _ => trivial | exact fun h => ⟨h, h, trivial⟩) rfl rfl rfl ?_) | refine pcond_t rfl ?_ | refine pcond_f rfl ?_ | refine kround_exit ?_ | refine kround_ret ?_ | refine kround_next ?_ | refine kloop_ret ?_ | refine kloop_exit ?_ | refine kcut_ret ?_ | refine kcut_exit ?_ | refine xo0 4000 rfl ?_ ?_ | refine xw0 4000 rfl ?_ ?_ | exact qq | fail)
              refine pcond rfl ?_ ?_ <;> intro hc6
              · have he : amtB ((g t).e u) = false := by
                  have hc6 : (!amtB ((g t).e u)) = true := hc6
                  exact notB hc6
                have ho : okW (g t).n (g t).e = false := by
                  cases h : okW (g t).n (g t).e with
                  | false => rfl
                  | true => have := okW_iff.1 h u hc5; unfold amtB at he; simp at he; omega
                rw [if_pos (allR_no hc3 (by simp [empB, ho]))]
                repeat' (first | refine xo 4000 rfl ?_ ?_ | refine xw 4000 rfl ?_ ?_ | refine xk 4000 rfl ?_ ?_ | exact trivial | ((with_reducible (show AllP (_ :: _))); refine And.intro ?_ ?_) | refine xs rfl ?_ ?_ | refine xs_done ?_ | refine pcond_t rfl ?_ | refine pcond_f rfl ?_ | refine kround_exit ?_ | refine kround_ret ?_ | refine kround_next ?_ | refine kloop_ret ?_ | refine kloop_exit ?_ | refine kcut_ret ?_ | refine kcut_exit ?_ | refine xo0 4000 rfl ?_ ?_ | refine xw0 4000 rfl ?_ ?_ | exact qq | fail)
                exact kretv rfl ⟨trivial, trivial⟩ rfl rfl
              · have he : amtB ((g t).e u) = true := by
                  have hc6 : (!decide (0 ≤ (g t).e u ∧ (g t).e u ≤ 1000000000)) = false := hc6
                  unfold amtB; simpa using hc6
                repeat' (first | refine xo 4000 rfl ?_ ?_ | refine xw 4000 rfl ?_ ?_ | refine xk 4000 rfl ?_ ?_ | exact trivial | ((with_reducible (show AllP (_ :: _))); refine And.intro ?_ ?_) | refine xs rfl ?_ ?_ | refine xs_done ?_ | refine pcond_t rfl ?_ | refine pcond_f rfl ?_ | refine kround_exit ?_ | refine kround_ret ?_ | refine kround_next ?_ | refine kloop_ret ?_ | refine kloop_exit ?_ | refine kcut_ret ?_ | refine kcut_exit ?_ | refine xo0 4000 rfl ?_ ?_ | refine xw0 4000 rfl ?_ ?_ | exact qq | fail)
                rw [hw2]
                exact kloop_next (st' := ⟨[(46, vMs j g), (47, vi j), (48, vi t), (57, .vsl (g t).n 1 (tI (g t).e)), (58, vi (g t).n), (59, vi ((u + 1 : Nat) : Int))], []⟩) ((g t).n - (u + 1)) (can_rowsv [] (k0_sel hk rfl) rfl (by (repeat (refine SelV.cons rfl rqq ?_)); exact SelV.nil) tmq) (by omega) ⟨u + 1, by omega, ext_lt hS he, rfl, rfl⟩
            · have hun : u = (g t).n := by omega
              have ho : okW (g t).n (g t).e = true := okW_iff.2 fun a ha => by
                have := hS a (by omega)
                unfold amtB at this; simpa using this
              repeat' (first | refine xo 4000 rfl ?_ ?_ | refine xw 4000 rfl ?_ ?_ | refine xk 4000 rfl ?_ ?_ | exact trivial | ((with_reducible (show AllP (_ :: _))); refine And.intro ?_ ?_) | refine xs rfl ?_ ?_ | refine xs_done ?_ | refine pcond_t rfl ?_ | refine pcond_f rfl ?_ | refine kround_exit ?_ | refine kround_ret ?_ | refine kround_next ?_ | refine kloop_ret ?_ | refine kloop_exit ?_ | refine kcut_ret ?_ | refine kcut_exit ?_ | refine xo0 4000 rfl ?_ ?_ | refine xw0 4000 rfl ?_ ?_ | exact qq | fail)
              rw [hw]
              exact kloop_next (st' := ⟨[(46, vMs j g), (47, vi j), (48, vi ((t + 1 : Nat) : Int))], []⟩) (j - (t + 1)) (can_rowsv [] (k0_sel hk rfl) rfl (by (repeat (refine SelV.cons rfl rqq ?_)); exact SelV.nil) tmq) (by omega) ⟨t + 1, by omega, ext_lt hR (by unfold empB; rw [hb, ho]; rfl), rfl, rfl⟩
        · have htj : t = j := by omega
          have ea : allR j (fun a => empB (g a)) = true := allR_iff.2 fun a ha => hR a (by omega)
          rw [if_neg (by simp [ea])]
          repeat' (first | refine xo 4000 rfl ?_ ?_ | refine xw 4000 rfl ?_ ?_ | refine xk 4000 rfl ?_ ?_ | exact trivial | ((with_reducible (show AllP (_ :: _))); refine And.intro ?_ ?_) | refine xs rfl ?_ ?_ | refine xs_done ?_ | refine pcond_t rfl ?_ | refine pcond_f rfl ?_ | refine kround_exit ?_ | refine kround_ret ?_ | refine kround_next ?_ | refine kloop_ret ?_ | refine kloop_exit ?_ | refine kcut_ret ?_ | refine kcut_exit ?_ | refine xo0 4000 rfl ?_ ?_ | refine xw0 4000 rfl ?_ ?_ | exact qq | fail)
          exact kretv rfl ⟨trivial, trivial⟩ rfl rfl
theorem argI {mem : List Row} {L : List Nat} {l n : Nat} {f f' : Nat → Int} (he : ∀ a, a < n → f a = f' a) (hr : rowAt mem l = some (iRow n f)) (hL : l ∈ L) : ArgOk mem L (.lsl l 0 n) (.vsl n 1 (tI f')) :=
  argLsl (r := iRow n f) hr trivial hL (by simp [iRow]) fun a ha b hb => ⟨by show tI f (0 + a) b = tI f' a b; rw [Nat.zero_add]; unfold tI; rw [he a ha], trivial⟩
theorem xdone {G : Pg2} {N : Nat} {Γ : Fr} {K : Exit → PSt → Prop} {e : Exit} {st : PSt} (h : K e st) : PX G N Γ K (.ex e) st [] := h
def bsI (g : Nat → Emp) (i a : Nat) : Int := if a < i then (g a).b else 0
theorem rM_cl (x : Emp) : rowCl (rM x) := fun _ _ j _ => clL_nth _ j ⟨trivial, trivial, trivial⟩
set_option maxHeartbeats 4000000 in
theorem joint_c (x : Sch) (m : Nat) (g : Nat → Emp) (hs : x.code.size ≤ 9223372036854775807) (hm : m ≤ 9223372036854775807) (hn : ∀ i, i < m → (g i).n ≤ 9223372036854775807) : PureC G.P 32 [vS x, vMs m g] (fun r => r = vSH (joiS x m g)) := by
  refine pure_of (G := G.toPg) (fn := Try.f32) Try.func32 rfl rfl rfl ?_; intro Γ hk
  repeat' (first | refine xo 4000 rfl ?_ ?_ | refine xw 4000 rfl ?_ ?_ | refine xk 4000 rfl ?_ ?_ | exact trivial | ((with_reducible (show AllP (_ :: _))); refine And.intro ?_ ?_) | refine xs rfl ?_ ?_ | refine xs_done ?_ | refine pop_callv rfl rfl rfl rfl rfl (conValid_c x hs) rfl rfl rfl ?_ | refine xs_call rfl rfl rfl rfl rfl rfl (conValid_c x hs) rfl rfl rfl ?_ | refine xs_one (ch := []) rfl rfl rfl (pst_callv rfl rfl rfl rfl rfl (conValid_c x hs) rfl rfl rfl ?_) | refine pop_callgv rfl rfl rfl rfl rfl rfl (fun _ => conValid_c x hs) (by first | exact fun h => ⟨h, trivial⟩ | exact fun _ => trivial | exact fun h => ⟨h, h, trivial⟩) rfl rfl rfl ?_ | refine xs_one (ch := []) rfl rfl rfl (pst_callgv rfl rfl rfl rfl rfl rfl (fun _ => conValid_c x hs) (by first | exact fun h => ⟨h, trivial⟩ | exact fun _ => trivial | exact fun h => ⟨h, h, trivial⟩) rfl rfl rfl ?_) | refine pcond_t rfl ?_ | refine pcond_f rfl ?_ | refine kround_exit ?_ | refine kround_ret ?_ | refine kround_next ?_ | refine kloop_ret ?_ | refine kloop_exit ?_ | refine kcut_ret ?_ | refine kcut_exit ?_ | refine xo0 4000 rfl ?_ ?_ | refine xw0 4000 rfl ?_ ?_ | exact qq | fail)
  refine pcond rfl ?_ ?_ <;> intro hc
  · have hv : valS x = false := by simpa using hc
    repeat' (first | refine xo 4000 rfl ?_ ?_ | refine xw 4000 rfl ?_ ?_ | refine xk 4000 rfl ?_ ?_ | exact trivial | ((with_reducible (show AllP (_ :: _))); refine And.intro ?_ ?_) | refine xs rfl ?_ ?_ | refine xs_done ?_ | refine pcond_t rfl ?_ | refine pcond_f rfl ?_ | refine kround_exit ?_ | refine kround_ret ?_ | refine kround_next ?_ | refine kloop_ret ?_ | refine kloop_exit ?_ | refine kcut_ret ?_ | refine kcut_exit ?_ | refine xo0 4000 rfl ?_ ?_ | refine xw0 4000 rfl ?_ ?_ | exact qq | fail)
    refine kret [] rfl ⟨trivial, trivial, trivial⟩ (qs := [.vsl 0 3 (l3F fun _ => (0, 0, 0)), vi 1]) nil3 ?_
    rw [joiS, if_pos hv]; rfl
  · have hv : valS x = true := by simpa using hc
    have hx := valS_iff.1 hv
    rw [joiS, if_neg (by simp [hv])]
    repeat' (first | refine xo 4000 rfl ?_ ?_ | refine xw 4000 rfl ?_ ?_ | refine xk 4000 rfl ?_ ?_ | exact trivial | ((with_reducible (show AllP (_ :: _))); refine And.intro ?_ ?_) | refine xs rfl ?_ ?_ | refine xs_done ?_ | refine pop_callv rfl rfl rfl rfl rfl (jerr_c m g hm hn) rfl rfl rfl ?_ | refine xs_call rfl rfl rfl rfl rfl rfl (jerr_c m g hm hn) rfl rfl rfl ?_ | refine xs_one (ch := []) rfl rfl rfl (pst_callv rfl rfl rfl rfl rfl (jerr_c m g hm hn) rfl rfl rfl ?_) | refine pop_callgv rfl rfl rfl rfl rfl rfl (fun _ => jerr_c m g hm hn) (by first | exact fun h => ⟨h, trivial⟩ | exact fun _ => trivial | exact fun h => ⟨h, h, trivial⟩) rfl rfl rfl ?_ | refine xs_one (ch := []) rfl rfl rfl (pst_callgv rfl rfl rfl rfl rfl rfl (fun _ => jerr_c m g hm hn) (by first | exact fun h => ⟨h, trivial⟩ | exact fun _ => trivial | exact fun h => ⟨h, h, trivial⟩) rfl rfl rfl ?_) | refine pcond_t rfl ?_ | refine pcond_f rfl ?_ | refine kround_exit ?_ | refine kround_ret ?_ | refine kround_next ?_ | refine kloop_ret ?_ | refine kloop_exit ?_ | refine kcut_ret ?_ | refine kcut_exit ?_ | refine xo0 4000 rfl ?_ ?_ | refine xw0 4000 rfl ?_ ?_ | exact qq | fail)
    by_cases hj : jeS m g ≠ 0
    · rw [if_pos hj]
      refine pcond rfl ?_ ?_ <;> intro hc2 <;> simp at hc2
      · repeat' (first | refine xo 4000 rfl ?_ ?_ | refine xw 4000 rfl ?_ ?_ | refine xk 4000 rfl ?_ ?_ | exact trivial | ((with_reducible (show AllP (_ :: _))); refine And.intro ?_ ?_) | refine xs rfl ?_ ?_ | refine xs_done ?_ | refine pcond_t rfl ?_ | refine pcond_f rfl ?_ | refine kround_exit ?_ | refine kround_ret ?_ | refine kround_next ?_ | refine kloop_ret ?_ | refine kloop_exit ?_ | refine kcut_ret ?_ | refine kcut_exit ?_ | refine xo0 4000 rfl ?_ ?_ | refine xw0 4000 rfl ?_ ?_ | exact qq | fail)
        exact kret [] rfl ⟨trivial, trivial, trivial⟩ (qs := [.vsl 0 3 (l3F fun _ => (0, 0, 0)), vi (jeS m g)]) nil3 rfl
      · exact absurd hc2 hj
    · rw [if_neg hj]
      have hj0 : jeS m g = 0 := by simpa using hj
      have hJ := je_ok hj0
      refine pcond rfl ?_ ?_ <;> intro hc2 <;> simp at hc2
      · exact absurd hj0 hc2
      obtain ⟨k, hk0⟩ : ∃ k, k = (g 0).n := ⟨_, rfl⟩
      rw [← hk0] at hJ ⊢
      have hk53 := hJ.k60
      have hm8 := hJ.m8
      have hm1 := hJ.m1
      have hwk : IntKind.i64.wrap (((g 0).n : Int) + 1) = ((k + 1 : Nat) : Int) := by rw [← hk0]; exact w64 (by omega) (by omega)
      have hwk' : IntKind.i64.wrap (((g (Int.toNat 0)).n : Int) + 1) = ((k + 1 : Nat) : Int) := hwk
      repeat' (first | refine xo 4000 rfl ?_ ?_ | refine xw 4000 rfl ?_ ?_ | refine xk 4000 rfl ?_ ?_ | exact trivial | ((with_reducible (show AllP (_ :: _))); refine And.intro ?_ ?_) | refine xs rfl ?_ ?_ | refine xs_done ?_ | refine pcond_t rfl ?_ | refine pcond_f rfl ?_ | refine kround_exit ?_ | refine kround_ret ?_ | refine kround_next ?_ | refine kloop_ret ?_ | refine kloop_exit ?_ | refine kcut_ret ?_ | refine kcut_exit ?_ | refine xo0 4000 rfl ?_ ?_ | refine xw0 4000 rfl ?_ ?_ | exact qq | fail)
      rw [hwk']
      refine pcan (st' := ⟨[(2, .ptr 0 0 0), (7, .lsl 1 0 (k + 1)), (8, .lsl 2 0 m), (33, vMs m g), (34, vi m), (35, vi 0)], [rS x, iRow (k + 1) (perI g k 0), iRow m (bsI g 0)]⟩) (can_rowsv [0, 1, 2] (k0_sel hk rfl) rfl (.cons rfl rqq (.cons rfl (i_eq (Nat.le_refl _) (fun a ha => by show vi 0 = vi _; congr 2; unfold perI; split <;> rfl)) (.cons rfl (i_eq (Nat.le_refl _) (fun a ha => by show vi 0 = vi _; congr 2)) .nil))) tmq) ?_
      refine ploop (fun q st => ∃ i : Nat, i ≤ m ∧ q = m - i ∧ st = ⟨[(2, .ptr 0 0 0), (7, .lsl 1 0 (k + 1)), (8, .lsl 2 0 m), (33, vMs m g), (34, vi m), (35, vi i)], [rS x, iRow (k + 1) (perI g k i), iRow m (bsI g i)]⟩) m ⟨0, by omega, rfl, rfl⟩ ?_
      rintro _ _ ⟨i, hi, rfl, rfl⟩
      repeat' (first | refine xo 4000 rfl ?_ ?_ | refine xw 4000 rfl ?_ ?_ | refine xk 4000 rfl ?_ ?_ | exact trivial | ((with_reducible (show AllP (_ :: _))); refine And.intro ?_ ?_) | refine xs rfl ?_ ?_ | refine xs_done ?_ | refine pcond_t rfl ?_ | refine pcond_f rfl ?_ | refine kround_exit ?_ | refine kround_ret ?_ | refine kround_next ?_ | refine kloop_ret ?_ | refine kloop_exit ?_ | refine kcut_ret ?_ | refine kcut_exit ?_ | refine xo0 4000 rfl ?_ ?_ | refine xw0 4000 rfl ?_ ?_ | exact qq | fail)
      refine pcond rfl ?_ ?_ <;> intro hc3 <;> simp at hc3
      · have hw : IntKind.i64.wrap ((i : Int) + 1) = ((i + 1 : Nat) : Int) := w64 (by omega) (by omega)
        have hin := hJ.n i hc3
        have hib := hJ.b i hc3
        have pb := perJ_bd hJ hc3
        repeat' (first | refine xo 4000 rfl ?_ ?_ | refine xw 4000 rfl ?_ ?_ | refine xk 4000 rfl ?_ ?_ | exact trivial | ((with_reducible (show AllP (_ :: _))); refine And.intro ?_ ?_) | refine xs rfl ?_ ?_ | refine xs_done ?_ | refine pcond_t rfl ?_ | refine pcond_f rfl ?_ | refine kround_exit ?_ | refine kround_ret ?_ | refine kround_next ?_ | refine kloop_ret ?_ | refine kloop_exit ?_ | refine kcut_ret ?_ | refine kcut_exit ?_ | refine xo0 4000 rfl ?_ ?_ | refine xw0 4000 rfl ?_ ?_ | exact qq | fail)
        refine pcan (st' := ⟨[(2, .ptr 0 0 0), (7, .lsl 1 0 (k + 1)), (8, .lsl 2 0 m), (9, vi i), (10, .ptr 3 0 0), (33, vMs m g), (34, vi m), (35, vi i), (41, .vsl (g i).n 1 (tI (g i).e)), (42, vi (g i).n), (43, vi 0)], [rS x, iRow (k + 1) (perJ g k i 0), iRow m (bsI g i), rM (g i)]⟩) (can_rowsv [0, 1, 2, 3] (k0_sel hk rfl) rfl (.cons rfl rqq (.cons rfl (i_eq (Nat.le_refl _) (fun a ha => by show vi _ = vi _; rw [perJ_0])) (.cons rfl rqq (.cons rfl rqq .nil)))) tmq) ?_
        refine ploop (fun q st => ∃ j : Nat, j ≤ k ∧ q = k - j ∧ st = ⟨[(2, .ptr 0 0 0), (7, .lsl 1 0 (k + 1)), (8, .lsl 2 0 m), (9, vi i), (10, .ptr 3 0 0), (33, vMs m g), (34, vi m), (35, vi i), (41, .vsl (g i).n 1 (tI (g i).e)), (42, vi (g i).n), (43, vi j)], [rS x, iRow (k + 1) (perJ g k i j), iRow m (bsI g i), rM (g i)]⟩) k ⟨0, by omega, rfl, rfl⟩ ?_
        rintro _ _ ⟨j, hj2, rfl, rfl⟩
        have pj := pb j j
        repeat' (first | refine xo 4000 rfl ?_ ?_ | refine xw 4000 rfl ?_ ?_ | refine xk 4000 rfl ?_ ?_ | exact trivial | ((with_reducible (show AllP (_ :: _))); refine And.intro ?_ ?_) | refine xs rfl ?_ ?_ | refine xs_done ?_ | refine pcond_t rfl ?_ | refine pcond_f rfl ?_ | refine kround_exit ?_ | refine kround_ret ?_ | refine kround_next ?_ | refine kloop_ret ?_ | refine kloop_exit ?_ | refine kcut_ret ?_ | refine kcut_exit ?_ | refine xo0 4000 rfl ?_ ?_ | refine xw0 4000 rfl ?_ ?_ | exact qq | fail)
        refine pcond rfl ?_ ?_ <;> intro hc4 <;> simp at hc4
        · have hjk : j < k := by omega
          have hej := hJ.e i hc3 j hjk
          have hwj : IntKind.i64.wrap ((j : Int) + 1) = ((j + 1 : Nat) : Int) := w64 (by omega) (by omega)
          have hwe : IntKind.i64.wrap (perJ g k i j (0 + (j : Int).toNat) + (g i).e (j : Int).toNat) = perJ g k i j j + (if j < k then (g i).e j else (g i).b) := by
            rw [show 0 + (j : Int).toNat = j by omega, show (j : Int).toNat = j by omega, if_pos hjk, w64 (by omega) (by omega)]
          repeat' (first | refine xo 4000 rfl ?_ ?_ | refine xw 4000 rfl ?_ ?_ | refine xk 4000 rfl ?_ ?_ | exact trivial | ((with_reducible (show AllP (_ :: _))); refine And.intro ?_ ?_) | refine xs rfl ?_ ?_ | refine xs_done ?_ | refine pcond_t rfl ?_ | refine pcond_f rfl ?_ | refine kround_exit ?_ | refine kround_ret ?_ | refine kround_next ?_ | refine kloop_ret ?_ | refine kloop_exit ?_ | refine kcut_ret ?_ | refine kcut_exit ?_ | refine xo0 4000 rfl ?_ ?_ | refine xw0 4000 rfl ?_ ?_ | exact qq | fail)
          rw [hwe, hwj]
          refine kloop_next (st' := ⟨[(2, .ptr 0 0 0), (7, .lsl 1 0 (k + 1)), (8, .lsl 2 0 m), (9, vi i), (10, .ptr 3 0 0), (33, vMs m g), (34, vi m), (35, vi i), (41, .vsl (g i).n 1 (tI (g i).e)), (42, vi (g i).n), (43, vi ((j + 1 : Nat) : Int))], [rS x, iRow (k + 1) (perJ g k i (j + 1)), iRow m (bsI g i), rM (g i)]⟩) (k - (j + 1)) (can_rowsv [0, 1, 2, 3] (k0_sel hk rfl) rfl (.cons rfl rqq (.cons rfl (i_eq (Nat.le_refl _) (fun a ha => ?_)) (.cons rfl rqq (.cons rfl rqq .nil)))) tmq) (by omega) ⟨j + 1, by omega, rfl, rfl⟩
          rw [upd_eq _ _ _ _ _ rfl]
          show vi (upd _ _ _ _) = vi _
          rw [← perJ_step]
          unfold upd
          rw [show 0 + (j : Int).toNat = j by omega]
        · have hjk : j = k := by omega
          have pk := pb k k
          have hwe : IntKind.i64.wrap (perJ g k i k k + (g i).b) = perJ g k i k k + (if k < k then (g i).e k else (g i).b) := by
            rw [if_neg (Nat.lt_irrefl k), w64 (by omega) (by omega)]
          have hwl : IntKind.i64.wrap (((k + 1 : Nat) : Int) - 1) = (k : Int) := by rw [w64 (by omega) (by omega)]; omega
          have hwz : 0 + (IntKind.i64.wrap (((k + 1 : Nat) : Int) - 1)).toNat = k := by rw [hwl]; omega
          rw [hjk]
          repeat' (first | refine xo 4000 rfl ?_ ?_ | refine xw 4000 rfl ?_ ?_ | refine xk 4000 rfl ?_ ?_ | exact trivial | ((with_reducible (show AllP (_ :: _))); refine And.intro ?_ ?_) | refine xs rfl ?_ ?_ | refine xs_done ?_ | refine pcond_t rfl ?_ | refine pcond_f rfl ?_ | refine kround_exit ?_ | refine kround_ret ?_ | refine kround_next ?_ | refine kloop_ret ?_ | refine kloop_exit ?_ | refine kcut_ret ?_ | refine kcut_exit ?_ | refine xo0 4000 rfl ?_ ?_ | refine xw0 4000 rfl ?_ ?_ | exact qq | fail)
          (refine any_start [0,2,3] 11 rfl ?_); (first | refine any_take 0 rfl (by kernel_rfl) (by kernel_rfl) (by kernel_rfl) rfl rfl rfl rfl rfl qtk ?_ | refine any_take2 0 rfl (by kernel_rfl) (by kernel_rfl) (by kernel_rfl) rfl rfl rfl rfl trivial ?_ | (refine any_take 0 rfl (by kernel_rfl) (by kernel_rfl) (by kernel_rfl) rfl rfl rfl rfl rfl ?_ ?_; rotate_left)); (first | refine any_take 1 rfl (by kernel_rfl) (by kernel_rfl) (by kernel_rfl) rfl rfl rfl rfl rfl qtk ?_ | refine any_take2 1 rfl (by kernel_rfl) (by kernel_rfl) (by kernel_rfl) rfl rfl rfl rfl trivial ?_ | (refine any_take 1 rfl (by kernel_rfl) (by kernel_rfl) (by kernel_rfl) rfl rfl rfl rfl rfl ?_ ?_; rotate_left)); (first | refine any_take 2 rfl (by kernel_rfl) (by kernel_rfl) (by kernel_rfl) rfl rfl rfl rfl rfl qtk ?_ | refine any_take2 2 rfl (by kernel_rfl) (by kernel_rfl) (by kernel_rfl) rfl rfl rfl rfl trivial ?_ | (refine any_take 2 rfl (by kernel_rfl) (by kernel_rfl) (by kernel_rfl) rfl rfl rfl rfl rfl ?_ ?_; rotate_left)); (first | refine any_take 3 rfl (by kernel_rfl) (by kernel_rfl) (by kernel_rfl) rfl rfl rfl rfl rfl qtk ?_ | refine any_take2 3 rfl (by kernel_rfl) (by kernel_rfl) (by kernel_rfl) rfl rfl rfl rfl trivial ?_ | (refine any_take 3 rfl (by kernel_rfl) (by kernel_rfl) (by kernel_rfl) rfl rfl rfl rfl rfl ?_ ?_; rotate_left)); (first | refine any_take 6 rfl (by kernel_rfl) (by kernel_rfl) (by kernel_rfl) rfl rfl rfl rfl rfl qtk ?_ | refine any_take2 6 rfl (by kernel_rfl) (by kernel_rfl) (by kernel_rfl) rfl rfl rfl rfl trivial ?_ | (refine any_take 6 rfl (by kernel_rfl) (by kernel_rfl) (by kernel_rfl) rfl rfl rfl rfl rfl ?_ ?_; rotate_left)); (first | refine any_take 7 rfl (by kernel_rfl) (by kernel_rfl) (by kernel_rfl) rfl rfl rfl rfl rfl qtk ?_ | refine any_take2 7 rfl (by kernel_rfl) (by kernel_rfl) (by kernel_rfl) rfl rfl rfl rfl trivial ?_ | (refine any_take 7 rfl (by kernel_rfl) (by kernel_rfl) (by kernel_rfl) rfl rfl rfl rfl rfl ?_ ?_; rotate_left)); (first | refine any_one 4 rfl (by kernel_rfl) (ch := []) rfl rfl (pst_read rfl rfl rfl rfl trivial ?_) | refine any_one 4 rfl (by kernel_rfl) (ch := []) rfl rfl (pst_read rfl rfl rfl rfl Nat.zero_lt_one ?_) | refine any_one 4 rfl (by kernel_rfl) (ch := []) rfl rfl (pst_read rfl rfl rfl rfl (by exact ⟨by decide, by decide⟩) ?_) | refine any_one 4 rfl (by kernel_rfl) (ch := []) rfl rfl (pst_read rfl rfl rfl rfl (And.intro (by omega) (by omega)) ?_) | refine any_one 4 rfl (by kernel_rfl) (ch := []) rfl rfl (pst_read rfl rfl rfl rfl (show (_ : Nat) < _ from by first | omega | (simp only [iRow]; omega)) ?_) | refine any_one 4 rfl (by kernel_rfl) (ch := []) rfl rfl (pst_read rfl rfl rfl rfl (show (_ : Nat) < n from by omega) ?_) | (refine any_one 4 rfl (by kernel_rfl) (ch := []) rfl rfl (pst_read rfl rfl rfl rfl ?_ ?_); rotate_left)); (first | refine any_one 5 rfl (by kernel_rfl) (ch := []) rfl rfl (pst_read rfl rfl rfl rfl trivial ?_) | refine any_one 5 rfl (by kernel_rfl) (ch := []) rfl rfl (pst_read rfl rfl rfl rfl Nat.zero_lt_one ?_) | refine any_one 5 rfl (by kernel_rfl) (ch := []) rfl rfl (pst_read rfl rfl rfl rfl (by exact ⟨by decide, by decide⟩) ?_) | refine any_one 5 rfl (by kernel_rfl) (ch := []) rfl rfl (pst_read rfl rfl rfl rfl (And.intro (by omega) (by omega)) ?_) | refine any_one 5 rfl (by kernel_rfl) (ch := []) rfl rfl (pst_read rfl rfl rfl rfl (show (_ : Nat) < _ from by first | omega | (simp only [iRow]; omega)) ?_) | refine any_one 5 rfl (by kernel_rfl) (ch := []) rfl rfl (pst_read rfl rfl rfl rfl (show (_ : Nat) < n from by omega) ?_) | (refine any_one 5 rfl (by kernel_rfl) (ch := []) rfl rfl (pst_read rfl rfl rfl rfl ?_ ?_); rotate_left)); (first | refine any_take 8 rfl (by kernel_rfl) (by kernel_rfl) (by kernel_rfl) rfl rfl rfl rfl rfl qtk ?_ | refine any_take2 8 rfl (by kernel_rfl) (by kernel_rfl) (by kernel_rfl) rfl rfl rfl rfl trivial ?_ | (refine any_take 8 rfl (by kernel_rfl) (by kernel_rfl) (by kernel_rfl) rfl rfl rfl rfl rfl ?_ ?_; rotate_left)); (first | refine any_one 9 rfl (by kernel_rfl) (ch := []) rfl rfl (pst_read rfl rfl rfl rfl trivial ?_) | refine any_one 9 rfl (by kernel_rfl) (ch := []) rfl rfl (pst_read rfl rfl rfl rfl Nat.zero_lt_one ?_) | refine any_one 9 rfl (by kernel_rfl) (ch := []) rfl rfl (pst_read rfl rfl rfl rfl (by exact ⟨by decide, by decide⟩) ?_) | refine any_one 9 rfl (by kernel_rfl) (ch := []) rfl rfl (pst_read rfl rfl rfl rfl (And.intro (by omega) (by omega)) ?_) | refine any_one 9 rfl (by kernel_rfl) (ch := []) rfl rfl (pst_read rfl rfl rfl rfl (show (_ : Nat) < _ from by first | omega | (simp only [iRow]; omega)) ?_) | refine any_one 9 rfl (by kernel_rfl) (ch := []) rfl rfl (pst_read rfl rfl rfl rfl (show (_ : Nat) < n from by omega) ?_) | (refine any_one 9 rfl (by kernel_rfl) (ch := []) rfl rfl (pst_read rfl rfl rfl rfl ?_ ?_); rotate_left)); (refine any_one 10 rfl (by kernel_rfl) (ch := [1]) rfl rfl ( pst_store rfl rfl rfl rfl (show (_ : Nat) < k + 1 from by omega) ?_)); (refine any_done (by kernel_rfl) ?_)
          rw [hwz, hwe]
          repeat' (first | refine xo 4000 rfl ?_ ?_ | refine xw 4000 rfl ?_ ?_ | refine xk 4000 rfl ?_ ?_ | exact trivial | ((with_reducible (show AllP (_ :: _))); refine And.intro ?_ ?_) | refine xs rfl ?_ ?_ | refine xs_done ?_ | refine pcond_t rfl ?_ | refine pcond_f rfl ?_ | refine kround_exit ?_ | refine kround_ret ?_ | refine kround_next ?_ | refine kloop_ret ?_ | refine kloop_exit ?_ | refine kcut_ret ?_ | refine kcut_exit ?_ | refine xo0 4000 rfl ?_ ?_ | refine xw0 4000 rfl ?_ ?_ | exact qq | fail)
          rw [hw]
          refine kloop_next (st' := ⟨[(2, .ptr 0 0 0), (7, .lsl 1 0 (k + 1)), (8, .lsl 2 0 m), (33, vMs m g), (34, vi m), (35, vi ((i + 1 : Nat) : Int))], [rS x, iRow (k + 1) (perI g k (i + 1)), iRow m (bsI g (i + 1))]⟩) (m - (i + 1)) (can_rowsv [0, 1, 2] (k0_sel hk rfl) rfl (.cons rfl rqq (.cons rfl (i_eq (Nat.le_refl _) (fun a ha => ?_)) (.cons rfl (i_eq (Nat.le_refl _) (fun a ha => ?_)) .nil))) tmq) (by omega) ⟨i + 1, by omega, rfl, rfl⟩
          · rw [upd_eq _ _ _ _ _ rfl]
            show vi (upd _ _ _ _) = vi _
            rw [← perJ_all ha, ← perJ_step]
            rfl
          · rw [upd_eq _ _ _ _ _ rfl]
            show vi (upd _ _ _ _) = vi _
            congr 2
            unfold upd bsI
            rw [show 0 + (i : Int).toNat = i by omega]
            by_cases e : a = i
            · subst e; rw [if_pos rfl, if_pos (Nat.lt_succ_self a)]
            · rw [if_neg e]
              by_cases e2 : a < i
              · rw [if_pos e2, if_pos (show a < i + 1 by omega)]
              · rw [if_neg e2, if_neg (show ¬ a < i + 1 by omega)]
      · have him : i = m := by omega
        rw [him]
        have hla := last_c x (k + 1) (perI g k m) hx (by omega) (by omega) (fun a _ => by have := perI_bd hJ (Nat.le_refl m) a; omega)
        have hnn := lst_nn (k := k) (g := perI g k m) hx (fun a _ => (perI_bd hJ (Nat.le_refl m) a).1)
        have hdv := conDivide_c m (lstS x (k + 1) (perI g k m)) (fun i => (g i).b) (by omega) (by omega) hnn.1 hnn.2.1 hnn.2.2 hJ.b
        repeat' (first | refine xo 4000 rfl ?_ ?_ | refine xw 4000 rfl ?_ ?_ | refine xk 4000 rfl ?_ ?_ | exact trivial | ((with_reducible (show AllP (_ :: _))); refine And.intro ?_ ?_) | refine xs rfl ?_ ?_ | refine xs_done ?_ | refine pcond_t rfl ?_ | refine pcond_f rfl ?_ | refine kround_exit ?_ | refine kround_ret ?_ | refine kround_next ?_ | refine kloop_ret ?_ | refine kloop_exit ?_ | refine kcut_ret ?_ | refine kcut_exit ?_ | refine xo0 4000 rfl ?_ ?_ | refine xw0 4000 rfl ?_ ?_ | exact qq | fail)
        refine pop_callc [1] rfl rfl rfl rfl rfl rfl (by intro l hl; rw [hk]; exact Nat.zero_le _) hla ⟨argCl (clA ⟨trivial, trivial, trivial, trivial, trivial, trivial, trivial, trivial, trivial⟩), argI (fun a ha => rfl) rfl (List.Mem.head _), trivial⟩ ?_
        rintro _ rfl
        repeat' (first | refine xo 4000 rfl ?_ ?_ | refine xw 4000 rfl ?_ ?_ | refine xk 4000 rfl ?_ ?_ | exact trivial | ((with_reducible (show AllP (_ :: _))); refine And.intro ?_ ?_) | refine xs rfl ?_ ?_ | refine xs_done ?_ | refine pcond_t rfl ?_ | refine pcond_f rfl ?_ | refine kround_exit ?_ | refine kround_ret ?_ | refine kround_next ?_ | refine kloop_ret ?_ | refine kloop_exit ?_ | refine kcut_ret ?_ | refine kcut_exit ?_ | refine xo0 4000 rfl ?_ ?_ | refine xw0 4000 rfl ?_ ?_ | exact qq | fail)
        refine pop_callc [2] rfl rfl rfl rfl rfl rfl (by intro l hl; rw [hk]; exact Nat.zero_le _) hdv ⟨argCl (clA ⟨trivial, trivial, trivial, trivial⟩), argI (fun a ha => by unfold bsI; rw [if_pos ha]) rfl (List.Mem.head _), trivial⟩ ?_
        rintro _ rfl
        repeat' (first | refine xo 4000 rfl ?_ ?_ | refine xw 4000 rfl ?_ ?_ | refine xk 4000 rfl ?_ ?_ | exact trivial | ((with_reducible (show AllP (_ :: _))); refine And.intro ?_ ?_) | refine xs rfl ?_ ?_ | refine xs_done ?_ | refine pcond_t rfl ?_ | refine pcond_f rfl ?_ | refine kround_exit ?_ | refine kround_ret ?_ | refine kround_next ?_ | refine kloop_ret ?_ | refine kloop_exit ?_ | refine kcut_ret ?_ | refine kcut_exit ?_ | refine xo0 4000 rfl ?_ ?_ | refine xw0 4000 rfl ?_ ?_ | exact qq | fail)
        refine xdone ?_
        exact kretv rfl ⟨trivial, trivial, trivial⟩ rfl rfl
end Go.Proofs.Ytpfpikpioidldaa
