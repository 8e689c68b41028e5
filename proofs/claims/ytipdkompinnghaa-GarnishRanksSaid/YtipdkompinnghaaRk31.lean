/- payrolllaw31: GarnishRanks. -/
import Derived.Test.YtipdkompinnghaaGar7
set_option linter.unusedSimpArgs false
set_option linter.unusedVariables false
set_option maxRecDepth 100000
namespace Go.Proofs.Ytipdkompinnghaa
theorem OOk.klt {n : Nat} {g : Nat → Ord} (h : OOk n g) {i j : Nat} (hi : i < n) (hj : j < n) : keyO g i < keyO g j ↔ (g i).rk < (g j).rk ∨ ((g i).rk = (g j).rk ∧ (g i).dy < (g j).dy) := by
  have := h.d0 i hi; have := h.d1 i hi; have := h.d0 j hj; have := h.d1 j hj
  unfold keyO; omega
theorem rk_ok {x : Shd} {net k : Int} {n : Nat} {g : Nat → Ord} (hO : OOk n g) {i j : Nat} (hi : i < n) (hj : j < n) (hs : (g i).rk = 0 ↔ (g j).rk = 0) (hlt : keyO g i < keyO g j) (hp : 0 < tkA x net k n g j) : tkA x net k n g i = clO g i := by
  rw [tkA_eq hi]
  rw [tkA_eq hj] at hp
  by_cases h : (g i).rk = 0
  · rw [if_pos h]
    rw [if_pos (hs.1 h)] at hp
    exact tk_rank hO.g (key_p hO) hi hj (by simp [pP, h]) hlt hp
  · rw [if_neg h]
    rw [if_neg (fun h' => h (hs.2 h'))] at hp
    exact tk_rank hO.g (key_o hO) hi hj (by simp [pO, h]) hlt hp
theorem sh_ok {x : Shd} {net k : Int} {n : Nat} {g : Nat → Ord} (hO : OOk n g) {i j : Nat} (hi : i < n) (hj : j < n) (hr : (g i).rk = (g j).rk) (hd : (g i).dy = (g j).dy) : tkA x net k n g i * clO g j - tkA x net k n g j * clO g i ≤ clO g i + clO g j := by
  have hk : keyO g i = keyO g j := (hO.key hi hj).2 ⟨hr, hd⟩
  rw [tkA_eq hi, tkA_eq hj, hr]
  split
  · exact tk_share hO.g _ _ hi hj hk
  · exact tk_share hO.g _ _ hi hj hk
theorem mulP {a b : Int} (ha : 0 ≤ a ∧ a ≤ 1000000000) (hb : 0 ≤ b ∧ b ≤ 1000000000) : 0 ≤ a * b ∧ a * b ≤ 1000000000000000000 := by
  refine ⟨Int.mul_nonneg ha.1 hb.1, ?_⟩
  have : a * b ≤ 1000000000 * 1000000000 := Int.mul_le_mul ha.2 hb.2 hb.1 (by omega)
  omega
theorem rkA {ri rj di dj Ti Tj ci : Int} (u1 : (ri < rj ∨ (ri = rj ∧ di < dj)) → 0 < Tj → Ti = ci) : (bif bif bif decide (ri < rj) then true else bif ri == rj then decide (di < dj) else false then decide (0 < Tj) else false then Ti != ci else false) = false := by
  by_cases h3 : 0 < Tj
  · by_cases h1 : ri < rj
    · simp [h1, h3, u1 (.inl h1) h3]
    · by_cases h2 : ri = rj ∧ di < dj
      · simp [h1, h3, h2, u1 (.inr h2) h3]
      · by_cases h4 : ri = rj
        · simp [h4, show ¬ di < dj from fun h => h2 ⟨h4, h⟩]
        · simp [h1, h4]
  · simp [h3]
theorem rkB {ri rj di dj c a b : Int} (u : ri = rj → di = dj → a ≤ c ∧ b ≤ c) : (bif bif ri == rj then di == dj else false then bif decide (c < a) then true else decide (c < b) else false) = false := by
  by_cases h1 : ri = rj
  · by_cases h2 : di = dj
    · have := u h1 h2
      simp [h1, h2, show ¬ c < a by omega, show ¬ c < b by omega]
    · simp [h2]
  · simp [h1]
set_option maxHeartbeats 2000000 in
theorem gRanks_law (n : Nat) (g : Nat → Int) (hn : n ≤ 9223372036854775807) : PureC G.P 8 [.vsl n 1 (tI g)] (fun r => r = vb true) := by
  refine pure_of (G := G.toPg) (fn := Try.f8) Try.func8 rfl rfl rfl ?_; intro Γ hk
  repeat' (first | refine xo 4000 rfl ?_ ?_ | refine xw 4000 rfl ?_ ?_ | refine xk 4000 rfl ?_ ?_ | exact trivial | ((with_reducible (show AllP (_ :: _))); refine And.intro ?_ ?_) | refine xs rfl ?_ ?_ | refine xs_done ?_ | refine pcond_t rfl ?_ | refine pcond_f rfl ?_ | refine kround_exit ?_ | refine kround_ret ?_ | refine kround_next ?_ | refine kloop_ret ?_ | refine kloop_exit ?_ | refine kcut_ret ?_ | refine kcut_exit ?_ | refine xo0 4000 rfl ?_ ?_ | refine xw0 4000 rfl ?_ ?_ | exact qq | fail)
  refine pop_rowsc [] rfl rfl rfl rfl rfl rfl .nil (dnew_c n g) (by exact ⟨PEq.refl _, trivial⟩) ?_
  rintro r rows ⟨rfl, rfl⟩
  refine ⟨_, _, rfl, ⟨tape_cl _ _ _, trivial⟩, rfl, ?_⟩
  repeat' (first | refine xo 4000 rfl ?_ ?_ | refine xw 4000 rfl ?_ ?_ | refine xk 4000 rfl ?_ ?_ | exact trivial | ((with_reducible (show AllP (_ :: _))); refine And.intro ?_ ?_) | refine xs rfl ?_ ?_ | refine xs_done ?_ | refine pcond_t rfl ?_ | refine pcond_f rfl ?_ | refine kround_exit ?_ | refine kround_ret ?_ | refine kround_next ?_ | refine kloop_ret ?_ | refine kloop_exit ?_ | refine kcut_ret ?_ | refine kcut_exit ?_ | refine xo0 4000 rfl ?_ ?_ | refine xw0 4000 rfl ?_ ?_ | exact qq | fail)
  refine pop_dek (G := G) rfl rfl rfl rfl rfl rfl rfl rfl (fun _ => rfl) (dshield_t) hn (by omega) (by omega) rfl rfl ?_; rintro at_ _ b1 b2 ⟨x, rfl, hx, f1, d1, t1⟩
  repeat' (first | refine xo 4000 rfl ?_ ?_ | refine xw 4000 rfl ?_ ?_ | refine xk 4000 rfl ?_ ?_ | exact trivial | ((with_reducible (show AllP (_ :: _))); refine And.intro ?_ ?_) | refine xs rfl ?_ ?_ | refine xs_done ?_ | refine pcond_t rfl ?_ | refine pcond_f rfl ?_ | refine kround_exit ?_ | refine kround_ret ?_ | refine kround_next ?_ | refine kloop_ret ?_ | refine kloop_exit ?_ | refine kcut_ret ?_ | refine kcut_exit ?_ | refine xo0 4000 rfl ?_ ?_ | refine xw0 4000 rfl ?_ ?_ | exact qq | fail)
  refine pop_dek (G := G) rfl rfl rfl rfl rfl rfl rfl rfl (fun _ => rfl) (dorders_t) hn (by omega) (by omega) rfl rfl ?_; rintro at_ _ b1 b2 ⟨l, rfl, hl⟩
  repeat' (first | refine xo 4000 rfl ?_ ?_ | refine xw 4000 rfl ?_ ?_ | refine xk 4000 rfl ?_ ?_ | exact trivial | ((with_reducible (show AllP (_ :: _))); refine And.intro ?_ ?_) | refine xs rfl ?_ ?_ | refine xs_done ?_ | refine pcond_t rfl ?_ | refine pcond_f rfl ?_ | refine kround_exit ?_ | refine kround_ret ?_ | refine kround_next ?_ | refine kloop_ret ?_ | refine kloop_exit ?_ | refine kcut_ret ?_ | refine kcut_exit ?_ | refine xo0 4000 rfl ?_ ?_ | refine xw0 4000 rfl ?_ ?_ | exact qq | fail)
  refine pop_dek (G := G) rfl rfl rfl rfl rfl rfl rfl rfl (fun _ => rfl) (dsmall_t) hn (by omega) (by omega) rfl rfl ?_; rintro at_ _ b1 b2 ⟨s1, rfl, s10, s11⟩
  repeat' (first | refine xo 4000 rfl ?_ ?_ | refine xw 4000 rfl ?_ ?_ | refine xk 4000 rfl ?_ ?_ | exact trivial | ((with_reducible (show AllP (_ :: _))); refine And.intro ?_ ?_) | refine xs rfl ?_ ?_ | refine xs_done ?_ | refine pcond_t rfl ?_ | refine pcond_f rfl ?_ | refine kround_exit ?_ | refine kround_ret ?_ | refine kround_next ?_ | refine kloop_ret ?_ | refine kloop_exit ?_ | refine kcut_ret ?_ | refine kcut_exit ?_ | refine xo0 4000 rfl ?_ ?_ | refine xw0 4000 rfl ?_ ?_ | exact qq | fail)
  refine pop_dek (G := G) rfl rfl rfl rfl rfl rfl rfl rfl (fun _ => rfl) (dsmall_t) hn (by omega) (by omega) rfl rfl ?_; rintro at_ _ b1 b2 ⟨s2, rfl, s20, s21⟩
  repeat' (first | refine xo 4000 rfl ?_ ?_ | refine xw 4000 rfl ?_ ?_ | refine xk 4000 rfl ?_ ?_ | exact trivial | ((with_reducible (show AllP (_ :: _))); refine And.intro ?_ ?_) | refine xs rfl ?_ ?_ | refine xs_done ?_ | refine pcond_t rfl ?_ | refine pcond_f rfl ?_ | refine kround_exit ?_ | refine kround_ret ?_ | refine kround_next ?_ | refine kloop_ret ?_ | refine kloop_exit ?_ | refine kcut_ret ?_ | refine kcut_exit ?_ | refine xo0 4000 rfl ?_ ?_ | refine xw0 4000 rfl ?_ ?_ | exact qq | fail)
  refine pop_dekl (G := G) rfl rfl rfl rfl rfl rfl rfl rfl rfl rfl rfl (by omega) rfl (fun _ => rfl) rfl (dpick_t _ _ rfl (by decide) (by decide)) hn (by omega) (by omega) ?_; rintro at_ _ b1 b2 ⟨nt, rfl, hnt⟩
  simp only [unL, List.mem_cons, List.not_mem_nil, or_false] at hnt
  repeat' (first | refine xo 4000 rfl ?_ ?_ | refine xw 4000 rfl ?_ ?_ | refine xk 4000 rfl ?_ ?_ | exact trivial | ((with_reducible (show AllP (_ :: _))); refine And.intro ?_ ?_) | refine xs rfl ?_ ?_ | refine xs_done ?_ | refine pcond_t rfl ?_ | refine pcond_f rfl ?_ | refine kround_exit ?_ | refine kround_ret ?_ | refine kround_next ?_ | refine kloop_ret ?_ | refine kloop_exit ?_ | refine kcut_ret ?_ | refine kcut_exit ?_ | refine xo0 4000 rfl ?_ ?_ | refine xw0 4000 rfl ?_ ?_ | exact qq | fail)
  refine pop_dek (G := G) rfl rfl rfl rfl rfl rfl rfl rfl (fun _ => rfl) (dnext_t 3 (by omega) (by omega)) hn (by omega) (by omega) rfl rfl ?_; rintro at_ _ b1 b2 ⟨k, rfl, k0, k1⟩
  have n0 : 0 ≤ nt := by omega
  have n1 : nt ≤ 1000000000 := by omega
  have hC : COk x nt k := ⟨hx, n0, by omega, k0, by omega⟩
  have hO := ords_ok hl.ords
  obtain ⟨E, T, hA, q0⟩ := a_ok hl hC
  have hl5 := hl.len
  have hclb : ∀ j, j < l.length → 0 ≤ clO (lF dO l) j ∧ clO (lF dO l) j ≤ 1000000000 := fun j hj => hO.cl hj
  have hr1 : ∀ i j, i < l.length → j < l.length → ((lF dO l i).rk = 0 ↔ (lF dO l j).rk = 0) → ((lF dO l i).rk < (lF dO l j).rk ∨ ((lF dO l i).rk = (lF dO l j).rk ∧ (lF dO l i).dy < (lF dO l j).dy)) → 0 < T j → T i = clO (lF dO l) i := fun i j hi hj h1 h2 h3 => by
    rw [hA.hT] at h3 ⊢
    exact rk_ok hO hi hj h1 ((hO.klt hi hj).2 h2) h3
  have hr2 : ∀ i j, i < l.length → j < l.length → (lF dO l i).rk = (lF dO l j).rk → (lF dO l i).dy = (lF dO l j).dy → T i * clO (lF dO l) j - T j * clO (lF dO l) i ≤ clO (lF dO l) i + clO (lF dO l) j := fun i j hi hj h1 h2 => by
    rw [hA.hT]
    exact sh_ok hO hi hj h1 h2
  repeat' (first | refine xo 4000 rfl ?_ ?_ | refine xw 4000 rfl ?_ ?_ | refine xk 4000 rfl ?_ ?_ | exact trivial | ((with_reducible (show AllP (_ :: _))); refine And.intro ?_ ?_) | refine xs rfl ?_ ?_ | refine xs_done ?_ | (refine pop_callc [] rfl rfl rfl rfl rfl rfl (fun _ h => by cases h) (q0) (args_cl _ rfl) ?_; rintro _ rfl) | refine pcond_t rfl ?_ | refine pcond_f rfl ?_ | refine kround_exit ?_ | refine kround_ret ?_ | refine kround_next ?_ | refine kloop_ret ?_ | refine kloop_exit ?_ | refine kcut_ret ?_ | refine kcut_exit ?_ | refine xo0 4000 rfl ?_ ?_ | refine xw0 4000 rfl ?_ ?_ | exact qq | fail)
  refine pcan (st' := ⟨[(5, vOs l.length (lF dO l)), (8, vEs E), (10, vi 0)], []⟩) (can_rowsv [] (k0_sel hk rfl) rfl (by (repeat (refine SelV.cons rfl rqq ?_)); exact SelV.nil) tmq) ?_
  refine ploop (fun q st => ∃ i : Nat, i ≤ l.length ∧ q = l.length - i ∧ st = ⟨[(5, vOs l.length (lF dO l)), (8, vEs E), (10, vi i)], []⟩) l.length ⟨0, by omega, rfl, rfl⟩ ?_
  rintro _ _ ⟨i, hi, rfl, rfl⟩
  repeat' (first | refine xo 4000 rfl ?_ ?_ | refine xw 4000 rfl ?_ ?_ | refine xk 4000 rfl ?_ ?_ | exact trivial | ((with_reducible (show AllP (_ :: _))); refine And.intro ?_ ?_) | refine xs rfl ?_ ?_ | refine xs_done ?_ | refine pcond_t rfl ?_ | refine pcond_f rfl ?_ | refine kround_exit ?_ | refine kround_ret ?_ | refine kround_next ?_ | refine kloop_ret ?_ | refine kloop_exit ?_ | refine kcut_ret ?_ | refine kcut_exit ?_ | refine xo0 4000 rfl ?_ ?_ | refine xw0 4000 rfl ?_ ?_ | exact qq | fail)
  refine pcond rfl ?_ ?_ <;> intro hc <;> simp at hc
  · have hw : IntKind.i64.wrap ((i : Int) + 1) = ((i + 1 : Nat) : Int) := w64 (by omega) (by omega)
    repeat' (first | refine xo 4000 rfl ?_ ?_ | refine xw 4000 rfl ?_ ?_ | refine xk 4000 rfl ?_ ?_ | exact trivial | ((with_reducible (show AllP (_ :: _))); refine And.intro ?_ ?_) | refine xs rfl ?_ ?_ | refine xs_done ?_ | refine pcond_t rfl ?_ | refine pcond_f rfl ?_ | refine kround_exit ?_ | refine kround_ret ?_ | refine kround_next ?_ | refine kloop_ret ?_ | refine kloop_exit ?_ | refine kcut_ret ?_ | refine kcut_exit ?_ | refine xo0 4000 rfl ?_ ?_ | refine xw0 4000 rfl ?_ ?_ | exact qq | fail)
    refine pcan (can_sel [5, 8, 10, 11]) ?_
    refine ploop (fun q st => ∃ j : Nat, j ≤ l.length ∧ q = l.length - j ∧ st = ⟨[(5, vOs l.length (lF dO l)), (8, vEs E), (10, vi i), (11, vi j)], []⟩) l.length ⟨0, by omega, rfl, rfl⟩ ?_
    rintro _ _ ⟨j, hj, rfl, rfl⟩
    repeat' (first | refine xo 4000 rfl ?_ ?_ | refine xw 4000 rfl ?_ ?_ | refine xk 4000 rfl ?_ ?_ | exact trivial | ((with_reducible (show AllP (_ :: _))); refine And.intro ?_ ?_) | refine xs rfl ?_ ?_ | refine xs_done ?_ | refine pcond_t rfl ?_ | refine pcond_f rfl ?_ | refine kround_exit ?_ | refine kround_ret ?_ | refine kround_next ?_ | refine kloop_ret ?_ | refine kloop_exit ?_ | refine kcut_ret ?_ | refine kcut_exit ?_ | refine xo0 4000 rfl ?_ ?_ | refine xw0 4000 rfl ?_ ?_ | exact qq | fail)
    refine pcond rfl ?_ ?_ <;> intro hc2 <;> simp at hc2
    · have hw2 : IntKind.i64.wrap ((j : Int) + 1) = ((j + 1 : Nat) : Int) := w64 (by omega) (by omega)
      repeat' (first | refine xo 4000 rfl ?_ ?_ | refine xw 4000 rfl ?_ ?_ | refine xk 4000 rfl ?_ ?_ | exact trivial | ((with_reducible (show AllP (_ :: _))); refine And.intro ?_ ?_) | refine xs rfl ?_ ?_ | refine xs_done ?_ | refine xs_start (id := 13) true [.take 0, .take 1, .take 2, .take 3, .take 4, .take 5, .take 6, .take 7, .take 8, .take 9, .take 10, .take 11, .take 12] 0 rfl rfl (by kernel_rfl) ?_ | refine xs_start (id := 14) true [.take 0, .take 1, .take 2, .take 3, .take 4, .take 5, .take 7, .take 8, .take 9, .take 10, .take 11, .take 12, .one 6, .one 13, .take 14, .take 15] 0 rfl rfl (by kernel_rfl) ?_ | refine xs_start (id := 15) true [.take 0, .take 1, .take 2, .take 3, .take 5, .take 6, .take 7, .take 8, .one 4, .one 9, .take 10, .take 11] 0 rfl rfl (by kernel_rfl) ?_ | refine xs_start (id := 16) true [.take 0, .take 1, .take 2, .take 3, .take 4, .take 5, .take 6, .take 7, .take 8, .take 9, .take 10, .take 11, .take 12, .take 13, .take 14, .take 15, .take 16, .take 17, .take 18, .take 19, .take 20, .take 21, .take 22, .take 23, .take 24, .take 25, .take 26, .take 27, .take 28, .take 29, .take 30, .take 31, .take 32, .take 33, .take 34, .take 35, .take 36, .take 37, .take 38, .take 39, .take 40, .take 41, .take 42, .take 43, .take 44, .take 45] 0 rfl rfl (by kernel_rfl) ?_ | refine xs_start (id := 18) true [.take 0, .take 1, .take 2, .take 3, .take 4, .take 5, .take 6, .take 7, .take 8, .take 9, .take 10, .take 11, .take 12, .take 13, .take 14, .take 15, .take 16, .take 17, .take 18, .take 19, .take 20, .take 21, .take 22, .take 23, .take 24, .take 25, .take 26, .take 27, .take 28, .take 29, .take 30, .take 31, .take 32, .take 33, .take 34, .take 35, .take 36, .take 37, .take 38, .take 39, .take 40, .take 41, .take 42, .take 43, .take 44, .take 45, .take 46, .take 47, .take 48, .take 49] 0 rfl rfl (by kernel_rfl) ?_ | refine pcond_t rfl ?_ | refine pcond_f rfl ?_ | refine kround_exit ?_ | refine kround_ret ?_ | refine kround_next ?_ | refine kloop_ret ?_ | refine kloop_exit ?_ | refine kcut_ret ?_ | refine kcut_exit ?_ | refine xo0 4000 rfl ?_ ?_ | refine xw0 4000 rfl ?_ ?_ | exact qq | fail)
      refine pcond rfl ?_ ?_ <;> intro hc3
      · repeat' (first | refine xo 4000 rfl ?_ ?_ | refine xw 4000 rfl ?_ ?_ | refine xk 4000 rfl ?_ ?_ | exact trivial | ((with_reducible (show AllP (_ :: _))); refine And.intro ?_ ?_) | refine xs rfl ?_ ?_ | refine xs_done ?_ | refine pcond_t rfl ?_ | refine pcond_f rfl ?_ | refine kround_exit ?_ | refine kround_ret ?_ | refine kround_next ?_ | refine kloop_ret ?_ | refine kloop_exit ?_ | refine kcut_ret ?_ | refine kcut_exit ?_ | refine xo0 4000 rfl ?_ ?_ | refine xw0 4000 rfl ?_ ?_ | exact qq | fail)
        rw [hw2]
        exact kloop_next (l.length - (j + 1)) (can_sel [5, 8, 10, 11]) (by omega) ⟨j + 1, by omega, rfl, rfl⟩
      · have hei : atE (lF dO l (i : Int).toNat).id E = T i := hA.at_ i hc
        have hej : atE (lF dO l (j : Int).toNat).id E = T j := hA.at_ j hc2
        have hsm : (lF dO l i).rk = 0 ↔ (lF dO l j).rk = 0 := by
          have h3 : ((lF dO l i).rk == 0) = ((lF dO l j).rk == 0) := by simpa using hc3
          constructor <;> intro h <;> simp [h] at h3 <;> omega
        have u1 := hr1 i j hc hc2 hsm
        have u2 := hr2 i j hc hc2
        have u3 := hr2 j i hc2 hc
        have bi := hA.b9 i hc
        have bj := hA.b9 j hc2
        have ci := hclb i hc
        have cj := hclb j hc2
        repeat' (first | refine xo 4000 rfl ?_ ?_ | refine xw 4000 rfl ?_ ?_ | refine xk 4000 rfl ?_ ?_ | exact trivial | ((with_reducible (show AllP (_ :: _))); refine And.intro ?_ ?_) | refine xs rfl ?_ ?_ | refine xs_done ?_ | refine xs_start (id := 13) true [.take 0, .take 1, .take 2, .take 3, .take 4, .take 5, .take 6, .take 7, .take 8, .take 9, .take 10, .take 11, .take 12] 0 rfl rfl (by kernel_rfl) ?_ | refine xs_start (id := 14) true [.take 0, .take 1, .take 2, .take 3, .take 4, .take 5, .take 7, .take 8, .take 9, .take 10, .take 11, .take 12, .one 6, .one 13, .take 14, .take 15] 0 rfl rfl (by kernel_rfl) ?_ | refine xs_start (id := 15) true [.take 0, .take 1, .take 2, .take 3, .take 5, .take 6, .take 7, .take 8, .one 4, .one 9, .take 10, .take 11] 0 rfl rfl (by kernel_rfl) ?_ | refine xs_start (id := 16) true [.take 0, .take 1, .take 2, .take 3, .take 4, .take 5, .take 6, .take 7, .take 8, .take 9, .take 10, .take 11, .take 12, .take 13, .take 14, .take 15, .take 16, .take 17, .take 18, .take 19, .take 20, .take 21, .take 22, .take 23, .take 24, .take 25, .take 26, .take 27, .take 28, .take 29, .take 30, .take 31, .take 32, .take 33, .take 34, .take 35, .take 36, .take 37, .take 38, .take 39, .take 40, .take 41, .take 42, .take 43, .take 44, .take 45] 0 rfl rfl (by kernel_rfl) ?_ | refine xs_start (id := 18) true [.take 0, .take 1, .take 2, .take 3, .take 4, .take 5, .take 6, .take 7, .take 8, .take 9, .take 10, .take 11, .take 12, .take 13, .take 14, .take 15, .take 16, .take 17, .take 18, .take 19, .take 20, .take 21, .take 22, .take 23, .take 24, .take 25, .take 26, .take 27, .take 28, .take 29, .take 30, .take 31, .take 32, .take 33, .take 34, .take 35, .take 36, .take 37, .take 38, .take 39, .take 40, .take 41, .take 42, .take 43, .take 44, .take 45, .take 46, .take 47, .take 48, .take 49] 0 rfl rfl (by kernel_rfl) ?_ | refine pop_callv rfl rfl rfl rfl rfl (at26_c E _ (by have := hA.el; omega)) rfl rfl rfl ?_ | refine xs_call rfl rfl rfl rfl rfl rfl (at26_c E _ (by have := hA.el; omega)) rfl rfl rfl ?_ | refine xs_one (ch := []) rfl rfl rfl (pst_callv rfl rfl rfl rfl rfl (at26_c E _ (by have := hA.el; omega)) rfl rfl rfl ?_) | refine pop_callgv rfl rfl rfl rfl rfl rfl (fun _ => at26_c E _ (by have := hA.el; omega)) (by first | exact fun h => ⟨h, trivial⟩ | exact fun _ => trivial | exact fun h => ⟨h, h, trivial⟩) rfl rfl rfl ?_ | refine xs_one (ch := []) rfl rfl rfl (pst_callgv rfl rfl rfl rfl rfl rfl (fun _ => at26_c E _ (by have := hA.el; omega)) (by first | exact fun h => ⟨h, trivial⟩ | exact fun _ => trivial | exact fun h => ⟨h, h, trivial⟩) rfl rfl rfl ?_) | refine pop_callv rfl rfl rfl rfl rfl (claim_c _) rfl rfl rfl ?_ | refine xs_call rfl rfl rfl rfl rfl rfl (claim_c _) rfl rfl rfl ?_ | refine xs_one (ch := []) rfl rfl rfl (pst_callv rfl rfl rfl rfl rfl (claim_c _) rfl rfl rfl ?_) | refine pop_callgv rfl rfl rfl rfl rfl rfl (fun _ => claim_c _) (by first | exact fun h => ⟨h, trivial⟩ | exact fun _ => trivial | exact fun h => ⟨h, h, trivial⟩) rfl rfl rfl ?_ | refine xs_one (ch := []) rfl rfl rfl (pst_callgv rfl rfl rfl rfl rfl rfl (fun _ => claim_c _) (by first | exact fun h => ⟨h, trivial⟩ | exact fun _ => trivial | exact fun h => ⟨h, h, trivial⟩) rfl rfl rfl ?_) | refine pcond_t rfl ?_ | refine pcond_f rfl ?_ | refine kround_exit ?_ | refine kround_ret ?_ | refine kround_next ?_ | refine kloop_ret ?_ | refine kloop_exit ?_ | refine kcut_ret ?_ | refine kcut_exit ?_ | refine xo0 4000 rfl ?_ ?_ | refine xw0 4000 rfl ?_ ?_ | exact qq | fail)
        rw [hei, hej]
        refine pcond (b := false) ?_ ?_ ?_
        · refine eqB ?_
          exact rkA u1
        · intro h; cases h
        · intro _
          have wi := mulP (hA.b9 i hc) cj
          have wj := mulP (hA.b9 j hc2) ci
          have e1 : IntKind.i64.wrap (T i * clO (lF dO l) j) = T i * clO (lF dO l) j := w64 (by omega) (by omega)
          have e2 : IntKind.i64.wrap (T j * clO (lF dO l) i) = T j * clO (lF dO l) i := w64 (by omega) (by omega)
          have e3 : IntKind.i64.wrap (T i * clO (lF dO l) j - T j * clO (lF dO l) i) = T i * clO (lF dO l) j - T j * clO (lF dO l) i := w64 (by omega) (by omega)
          have e4 : IntKind.i64.wrap (T j * clO (lF dO l) i - T i * clO (lF dO l) j) = T j * clO (lF dO l) i - T i * clO (lF dO l) j := w64 (by omega) (by omega)
          have e5 : IntKind.i64.wrap (clO (lF dO l) i + clO (lF dO l) j) = clO (lF dO l) i + clO (lF dO l) j := w64 (by omega) (by omega)
          repeat' (first | refine xo 4000 rfl ?_ ?_ | refine xw 4000 rfl ?_ ?_ | refine xk 4000 rfl ?_ ?_ | exact trivial | ((with_reducible (show AllP (_ :: _))); refine And.intro ?_ ?_) | refine xs rfl ?_ ?_ | refine xs_done ?_ | refine xs_start (id := 13) true [.take 0, .take 1, .take 2, .take 3, .take 4, .take 5, .take 6, .take 7, .take 8, .take 9, .take 10, .take 11, .take 12] 0 rfl rfl (by kernel_rfl) ?_ | refine xs_start (id := 14) true [.take 0, .take 1, .take 2, .take 3, .take 4, .take 5, .take 7, .take 8, .take 9, .take 10, .take 11, .take 12, .one 6, .one 13, .take 14, .take 15] 0 rfl rfl (by kernel_rfl) ?_ | refine xs_start (id := 15) true [.take 0, .take 1, .take 2, .take 3, .take 5, .take 6, .take 7, .take 8, .one 4, .one 9, .take 10, .take 11] 0 rfl rfl (by kernel_rfl) ?_ | refine xs_start (id := 16) true [.take 0, .take 1, .take 2, .take 3, .take 4, .take 5, .take 6, .take 7, .take 8, .take 9, .take 10, .take 11, .take 12, .take 13, .take 14, .take 15, .take 16, .take 17, .take 18, .take 19, .take 20, .take 21, .take 22, .take 23, .take 24, .take 25, .take 26, .take 27, .take 28, .take 29, .take 30, .take 31, .take 32, .take 33, .take 34, .take 35, .take 36, .take 37, .take 38, .take 39, .take 40, .take 41, .take 42, .take 43, .take 44, .take 45] 0 rfl rfl (by kernel_rfl) ?_ | refine xs_start (id := 18) true [.take 0, .take 1, .take 2, .take 3, .take 4, .take 5, .take 6, .take 7, .take 8, .take 9, .take 10, .take 11, .take 12, .take 13, .take 14, .take 15, .take 16, .take 17, .take 18, .take 19, .take 20, .take 21, .take 22, .take 23, .take 24, .take 25, .take 26, .take 27, .take 28, .take 29, .take 30, .take 31, .take 32, .take 33, .take 34, .take 35, .take 36, .take 37, .take 38, .take 39, .take 40, .take 41, .take 42, .take 43, .take 44, .take 45, .take 46, .take 47, .take 48, .take 49] 0 rfl rfl (by kernel_rfl) ?_ | refine pcond_t rfl ?_ | refine pcond_f rfl ?_ | refine kround_exit ?_ | refine kround_ret ?_ | refine kround_next ?_ | refine kloop_ret ?_ | refine kloop_exit ?_ | refine kcut_ret ?_ | refine kcut_exit ?_ | refine xo0 4000 rfl ?_ ?_ | refine xw0 4000 rfl ?_ ?_ | exact qq | fail)
          refine pcond (b := false) ?_ ?_ ?_
          · refine eqB ?_
            have hcli : clmS (lF dO l (i : Int).toNat) = clO (lF dO l) i := rfl
            have hclj : clmS (lF dO l (j : Int).toNat) = clO (lF dO l) j := rfl
            rw [hcli, hclj, e1, e2, e3, e4, e5]
            exact rkB (fun h1 h2 => ⟨u2 h1 h2, by have := u3 h1.symm h2.symm; omega⟩)
          · intro h; cases h
          · intro _
            repeat' (first | refine xo 4000 rfl ?_ ?_ | refine xw 4000 rfl ?_ ?_ | refine xk 4000 rfl ?_ ?_ | exact trivial | ((with_reducible (show AllP (_ :: _))); refine And.intro ?_ ?_) | refine xs rfl ?_ ?_ | refine xs_done ?_ | refine pcond_t rfl ?_ | refine pcond_f rfl ?_ | refine kround_exit ?_ | refine kround_ret ?_ | refine kround_next ?_ | refine kloop_ret ?_ | refine kloop_exit ?_ | refine kcut_ret ?_ | refine kcut_exit ?_ | refine xo0 4000 rfl ?_ ?_ | refine xw0 4000 rfl ?_ ?_ | exact qq | fail)
            rw [hw2]
            exact kloop_next (l.length - (j + 1)) (can_sel [5, 8, 10, 11]) (by omega) ⟨j + 1, by omega, rfl, rfl⟩
    · repeat' (first | refine xo 4000 rfl ?_ ?_ | refine xw 4000 rfl ?_ ?_ | refine xk 4000 rfl ?_ ?_ | exact trivial | ((with_reducible (show AllP (_ :: _))); refine And.intro ?_ ?_) | refine xs rfl ?_ ?_ | refine xs_done ?_ | refine pcond_t rfl ?_ | refine pcond_f rfl ?_ | refine kround_exit ?_ | refine kround_ret ?_ | refine kround_next ?_ | refine kloop_ret ?_ | refine kloop_exit ?_ | refine kcut_ret ?_ | refine kcut_exit ?_ | refine xo0 4000 rfl ?_ ?_ | refine xw0 4000 rfl ?_ ?_ | exact qq | fail)
      rw [hw]
      exact kloop_next (l.length - (i + 1)) (can_sel [5, 8, 10]) (by omega) ⟨i + 1, by omega, rfl, rfl⟩
  · repeat' (first | refine xo 4000 rfl ?_ ?_ | refine xw 4000 rfl ?_ ?_ | refine xk 4000 rfl ?_ ?_ | exact trivial | ((with_reducible (show AllP (_ :: _))); refine And.intro ?_ ?_) | refine xs rfl ?_ ?_ | refine xs_done ?_ | refine pop_callv rfl rfl rfl rfl rfl (awake_c) rfl rfl rfl ?_ | refine xs_call rfl rfl rfl rfl rfl rfl (awake_c) rfl rfl rfl ?_ | refine xs_one (ch := []) rfl rfl rfl (pst_callv rfl rfl rfl rfl rfl (awake_c) rfl rfl rfl ?_) | refine pop_callgv rfl rfl rfl rfl rfl rfl (fun _ => awake_c) (by first | exact fun h => ⟨h, trivial⟩ | exact fun _ => trivial | exact fun h => ⟨h, h, trivial⟩) rfl rfl rfl ?_ | refine xs_one (ch := []) rfl rfl rfl (pst_callgv rfl rfl rfl rfl rfl rfl (fun _ => awake_c) (by first | exact fun h => ⟨h, trivial⟩ | exact fun _ => trivial | exact fun h => ⟨h, h, trivial⟩) rfl rfl rfl ?_) | refine pcond_t rfl ?_ | refine pcond_f rfl ?_ | refine kround_exit ?_ | refine kround_ret ?_ | refine kround_next ?_ | refine kloop_ret ?_ | refine kloop_exit ?_ | refine kcut_ret ?_ | refine kcut_exit ?_ | refine xo0 4000 rfl ?_ ?_ | refine xw0 4000 rfl ?_ ?_ | exact qq | fail)
    refine xdone ?_
    exact kretv rfl ⟨trivial, trivial⟩ rfl rfl
theorem gRanks_walk (v : Value) (l : List Int) (w : World) (h : IntsAt w v l) : Calls G.P 8 #[v] w fun e w' => e = .returned (.bool true) ∧ Ext w w' := by
  have hl : l.length ≤ 9223372036854775807 := by obtain ⟨_, _, _, _, h, _⟩ := h; exact h
  exact law_of (vs := [v]) (gRanks_law l.length (fun i => l.getD i 0) hl) ⟨h.rel _, trivial⟩
end Go.Proofs.Ytipdkompinnghaa
