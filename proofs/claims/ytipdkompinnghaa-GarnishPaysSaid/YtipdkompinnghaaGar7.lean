/- payrolllaw31: taken; GarnishLeaves. -/
import Derived.Test.YtipdkompinnghaaGarR
set_option linter.unusedSimpArgs false
set_option linter.unusedVariables false
set_option maxRecDepth 100000
namespace Go.Proofs.Ytipdkompinnghaa
theorem sum_bd {n : Nat} {f : Nat → Int} (q : Nat → Bool) (hf : ∀ i, i < n → 0 ≤ f i ∧ f i ≤ 1000000000) {m : Nat} (hm : m ≤ n) : 0 ≤ sumN m (ifS q f) ∧ sumN m (ifS q f) ≤ m * 1000000000 := by
  have hb : ∀ i, i < m → 0 ≤ ifS q f i ∧ ifS q f i ≤ 1000000000 := fun i hi => by
    have := hf i (by omega)
    unfold ifS; split <;> omega
  refine ⟨sumN_nonneg fun i hi => (hb i hi).1, ?_⟩
  have := sumN_le (n := m) (f := ifS q f) (g := fun _ => 1000000000) fun i hi => (hb i hi).2
  rw [sumN_const] at this; exact this
theorem taken_c (n : Nat) (g : Nat → Ord) (l : List Elt) (hn : n ≤ 16) (hl : l.length ≤ 1000) (f : Nat → Int) (hf : ∀ i, i < n → 0 ≤ f i ∧ f i ≤ 1000000000) (he : ∀ i, i < n → atE (g i).id l = f i) :
    PureC G.P 34 [vOs n g, vEs l] (fun r => r = .tup 2 (nthP [vi (sumN n (ifS (pP g) f)), vi (sumN n (ifS (pO g) f))])) := by
  refine pure_of (G := G.toPg) (fn := Try.f34) Try.func34 rfl rfl rfl ?_; intro Γ hk
  repeat' (first | refine xo 4000 rfl ?_ ?_ | refine xw 4000 rfl ?_ ?_ | refine xk 4000 rfl ?_ ?_ | exact trivial | ((with_reducible (show AllP (_ :: _))); refine And.intro ?_ ?_) | refine xs rfl ?_ ?_ | refine xs_done ?_ | refine pcond_t rfl ?_ | refine pcond_f rfl ?_ | refine kround_exit ?_ | refine kround_ret ?_ | refine kround_next ?_ | refine kloop_ret ?_ | refine kloop_exit ?_ | refine kcut_ret ?_ | refine kcut_exit ?_ | refine xo0 4000 rfl ?_ ?_ | refine xw0 4000 rfl ?_ ?_ | exact qq | fail)
  refine pcan (can_sel [0, 1, 6, 7, 8]) ?_
  refine ploop (fun q st => ∃ i : Nat, i ≤ n ∧ q = n - i ∧ st = ⟨[(0, vOs n g), (1, vEs l), (6, vi (sumN i (ifS (pP g) f))), (7, vi (sumN i (ifS (pO g) f))), (8, vi i)], []⟩) n ⟨0, by omega, rfl, rfl⟩ ?_
  rintro _ _ ⟨i, hi, rfl, rfl⟩
  have b1 := sum_bd (pP g) hf hi
  have b2 := sum_bd (pO g) hf hi
  repeat' (first | refine xo 4000 rfl ?_ ?_ | refine xw 4000 rfl ?_ ?_ | refine xk 4000 rfl ?_ ?_ | exact trivial | ((with_reducible (show AllP (_ :: _))); refine And.intro ?_ ?_) | refine xs rfl ?_ ?_ | refine xs_done ?_ | refine pcond_t rfl ?_ | refine pcond_f rfl ?_ | refine kround_exit ?_ | refine kround_ret ?_ | refine kround_next ?_ | refine kloop_ret ?_ | refine kloop_exit ?_ | refine kcut_ret ?_ | refine kcut_exit ?_ | refine xo0 4000 rfl ?_ ?_ | refine xw0 4000 rfl ?_ ?_ | exact qq | fail)
  refine pcond rfl ?_ ?_ <;> intro hc <;> simp at hc
  · have hw : IntKind.i64.wrap ((i : Int) + 1) = ((i + 1 : Nat) : Int) := w64 (by omega) (by omega)
    have hfi := hf i hc
    have hei : atE (g (i : Int).toNat).id l = f i := he i hc
    repeat' (first | refine xo 4000 rfl ?_ ?_ | refine xw 4000 rfl ?_ ?_ | refine xk 4000 rfl ?_ ?_ | exact trivial | ((with_reducible (show AllP (_ :: _))); refine And.intro ?_ ?_) | refine xs rfl ?_ ?_ | refine xs_done ?_ | refine pcond_t rfl ?_ | refine pcond_f rfl ?_ | refine kround_exit ?_ | refine kround_ret ?_ | refine kround_next ?_ | refine kloop_ret ?_ | refine kloop_exit ?_ | refine kcut_ret ?_ | refine kcut_exit ?_ | refine xo0 4000 rfl ?_ ?_ | refine xw0 4000 rfl ?_ ?_ | exact qq | fail)
    refine pcond rfl ?_ ?_ <;> intro hc2
    · have hc2 : (g i).rk = 0 := by have hc2 : ((g i).rk == 0) = true := hc2; simpa using hc2
      have e1 : sumN (i + 1) (ifS (pP g) f) = sumN i (ifS (pP g) f) + f i := by rw [sumN]; congr 1; unfold ifS; rw [if_pos (by simp [pP, hc2])]
      have e2 : sumN (i + 1) (ifS (pO g) f) = sumN i (ifS (pO g) f) := by rw [sumN]; unfold ifS; rw [if_neg (by simp [pO, hc2])]; omega
      have hw2 : IntKind.i64.wrap (sumN i (ifS (pP g) f) + f i) = sumN (i + 1) (ifS (pP g) f) := by rw [w64 (by omega) (by omega), e1]
      repeat' (first | refine xo 4000 rfl ?_ ?_ | refine xw 4000 rfl ?_ ?_ | refine xk 4000 rfl ?_ ?_ | exact trivial | ((with_reducible (show AllP (_ :: _))); refine And.intro ?_ ?_) | refine xs rfl ?_ ?_ | refine xs_done ?_ | refine pop_callv rfl rfl rfl rfl rfl (at26_c l _ hl) rfl rfl rfl ?_ | refine xs_call rfl rfl rfl rfl rfl rfl (at26_c l _ hl) rfl rfl rfl ?_ | refine xs_one (ch := []) rfl rfl rfl (pst_callv rfl rfl rfl rfl rfl (at26_c l _ hl) rfl rfl rfl ?_) | refine pop_callgv rfl rfl rfl rfl rfl rfl (fun _ => at26_c l _ hl) (by first | exact fun h => ⟨h, trivial⟩ | exact fun _ => trivial | exact fun h => ⟨h, h, trivial⟩) rfl rfl rfl ?_ | refine xs_one (ch := []) rfl rfl rfl (pst_callgv rfl rfl rfl rfl rfl rfl (fun _ => at26_c l _ hl) (by first | exact fun h => ⟨h, trivial⟩ | exact fun _ => trivial | exact fun h => ⟨h, h, trivial⟩) rfl rfl rfl ?_) | refine pcond_t rfl ?_ | refine pcond_f rfl ?_ | refine kround_exit ?_ | refine kround_ret ?_ | refine kround_next ?_ | refine kloop_ret ?_ | refine kloop_exit ?_ | refine kcut_ret ?_ | refine kcut_exit ?_ | refine xo0 4000 rfl ?_ ?_ | refine xw0 4000 rfl ?_ ?_ | exact qq | fail)
      rw [hei, hw2, hw]
      exact kloop_next (n - (i + 1)) (can_sel [0, 1, 6, 7, 8]) (by omega) ⟨i + 1, by omega, rfl, by rw [e2]; rfl⟩
    · have hc2 : ¬ (g i).rk = 0 := by have hc2 : ((g i).rk == 0) = false := hc2; simpa using hc2
      have e1 : sumN (i + 1) (ifS (pO g) f) = sumN i (ifS (pO g) f) + f i := by rw [sumN]; congr 1; unfold ifS; rw [if_pos (by simp [pO, hc2])]
      have e2 : sumN (i + 1) (ifS (pP g) f) = sumN i (ifS (pP g) f) := by rw [sumN]; unfold ifS; rw [if_neg (by simp [pP, hc2])]; omega
      have hw2 : IntKind.i64.wrap (sumN i (ifS (pO g) f) + f i) = sumN (i + 1) (ifS (pO g) f) := by rw [w64 (by omega) (by omega), e1]
      repeat' (first | refine xo 4000 rfl ?_ ?_ | refine xw 4000 rfl ?_ ?_ | refine xk 4000 rfl ?_ ?_ | exact trivial | ((with_reducible (show AllP (_ :: _))); refine And.intro ?_ ?_) | refine xs rfl ?_ ?_ | refine xs_done ?_ | refine pop_callv rfl rfl rfl rfl rfl (at26_c l _ hl) rfl rfl rfl ?_ | refine xs_call rfl rfl rfl rfl rfl rfl (at26_c l _ hl) rfl rfl rfl ?_ | refine xs_one (ch := []) rfl rfl rfl (pst_callv rfl rfl rfl rfl rfl (at26_c l _ hl) rfl rfl rfl ?_) | refine pop_callgv rfl rfl rfl rfl rfl rfl (fun _ => at26_c l _ hl) (by first | exact fun h => ⟨h, trivial⟩ | exact fun _ => trivial | exact fun h => ⟨h, h, trivial⟩) rfl rfl rfl ?_ | refine xs_one (ch := []) rfl rfl rfl (pst_callgv rfl rfl rfl rfl rfl rfl (fun _ => at26_c l _ hl) (by first | exact fun h => ⟨h, trivial⟩ | exact fun _ => trivial | exact fun h => ⟨h, h, trivial⟩) rfl rfl rfl ?_) | refine pcond_t rfl ?_ | refine pcond_f rfl ?_ | refine kround_exit ?_ | refine kround_ret ?_ | refine kround_next ?_ | refine kloop_ret ?_ | refine kloop_exit ?_ | refine kcut_ret ?_ | refine kcut_exit ?_ | refine xo0 4000 rfl ?_ ?_ | refine xw0 4000 rfl ?_ ?_ | exact qq | fail)
      rw [hei, hw2, hw]
      exact kloop_next (n - (i + 1)) (can_sel [0, 1, 6, 7, 8]) (by omega) ⟨i + 1, by omega, rfl, by rw [e2]; rfl⟩
  · have hin : i = n := by omega
    subst hin
    repeat' (first | refine xo 4000 rfl ?_ ?_ | refine xw 4000 rfl ?_ ?_ | refine xk 4000 rfl ?_ ?_ | exact trivial | ((with_reducible (show AllP (_ :: _))); refine And.intro ?_ ?_) | refine xs rfl ?_ ?_ | refine xs_done ?_ | refine pcond_t rfl ?_ | refine pcond_f rfl ?_ | refine kround_exit ?_ | refine kround_ret ?_ | refine kround_next ?_ | refine kloop_ret ?_ | refine kloop_exit ?_ | refine kcut_ret ?_ | refine kcut_exit ?_ | refine xo0 4000 rfl ?_ ?_ | refine xw0 4000 rfl ?_ ?_ | exact qq | fail)
    exact kretv rfl ⟨trivial, trivial, trivial⟩ rfl rfl
/-- all that the laws need of an answer of Attach -/
structure AOk (x : Shd) (net k : Int) (n : Nat) (g : Nat → Ord) (E : List Elt) (T : Nat → Int) : Prop where
  hT : T = tkA x net k n g
  hE : E = eltS g T n
  el : E.length ≤ 16
  at_ : ∀ i, i < n → atE (g i).id E = T i
  bd : ∀ i, i < n → 0 ≤ T i ∧ T i ≤ clO g i
  b9 : ∀ i, i < n → 0 ≤ T i ∧ T i ≤ 1000000000
  am : ∀ i, i < E.length → 0 ≤ (lF dE E i).am ∧ (lF dE E i).am ≤ 2000000000
  sum : sumN E.length (fun i => (lF dE E i).am) = sumN n T
theorem a_ok {x : Shd} {net k : Int} {l : List Ord} (hl : OLs 5 l) (hC : COk x net k) : ∃ E T, AOk x net k l.length (lF dO l) E T ∧ PureC G.P 29 [vH x, vi net, vi k, vOs l.length (lF dO l)] (fun r => r = .tup 2 (nthP [vEs E, vi 0])) := by
  have hO := ords_ok hl.ords
  have hA := attach_c x net k l.length (lF dO l) hl.sz
  rw [att_ok hl hC] at hA
  refine ⟨_, _, ⟨rfl, rfl, ?_, ?_, fun i hi => tkA_bd hO hi, ?_, ?_, ?_⟩, hA⟩
  · have := elt_len (lF dO l) (tkA x net k l.length (lF dO l)) l.length
    have := hO.n16
    omega
  · intro i hi
    rw [at_elt hl.dist (fun i hi => (tkA_bd hO hi).1) hi _ (Nat.le_refl _), if_pos hi]
  · intro i hi
    have := tkA_bd (x := x) (net := net) (k := k) hO hi
    have := hO.cl hi
    omega
  · intro i hi
    rw [lF_get hi]
    obtain ⟨j, hj, hp, e⟩ := elt_mem (List.getElem_mem hi)
    have := tkA_bd (x := x) (net := net) (k := k) hO hj
    have := hO.cl hj
    rw [e]
    simp only
    omega
  · rw [sE_sumN, sE_elt (fun i hi => (tkA_bd hO hi).1) _ (Nat.le_refl _)]
set_option maxHeartbeats 1000000 in
theorem gLeaves_law (n : Nat) (g : Nat → Int) (hn : n ≤ 9223372036854775807) : PureC G.P 7 [.vsl n 1 (tI g)] (fun r => r = vb true) := by
  refine pure_of (G := G.toPg) (fn := Try.f7) Try.func7 rfl rfl rfl ?_; intro Γ hk
  repeat' (first | refine xo 4000 rfl ?_ ?_ | refine xw 4000 rfl ?_ ?_ | refine xk 4000 rfl ?_ ?_ | exact trivial | ((with_reducible (show AllP (_ :: _))); refine And.intro ?_ ?_) | refine xs rfl ?_ ?_ | refine xs_done ?_ | refine pcond_t rfl ?_ | refine pcond_f rfl ?_ | refine kround_exit ?_ | refine kround_ret ?_ | refine kround_next ?_ | refine kloop_ret ?_ | refine kloop_exit ?_ | refine kcut_ret ?_ | refine kcut_exit ?_ | refine xo0 4000 rfl ?_ ?_ | refine xw0 4000 rfl ?_ ?_ | exact qq | fail)
  refine pop_rowsc [] rfl rfl rfl rfl rfl rfl .nil (dnew_c n g) (by exact ⟨PEq.refl _, trivial⟩) ?_
  rintro r rows ⟨rfl, rfl⟩
  refine ⟨_, _, rfl, ⟨tape_cl _ _ _, trivial⟩, rfl, ?_⟩
  repeat' (first | refine xo 4000 rfl ?_ ?_ | refine xw 4000 rfl ?_ ?_ | refine xk 4000 rfl ?_ ?_ | exact trivial | ((with_reducible (show AllP (_ :: _))); refine And.intro ?_ ?_) | refine xs rfl ?_ ?_ | refine xs_done ?_ | refine pcond_t rfl ?_ | refine pcond_f rfl ?_ | refine kround_exit ?_ | refine kround_ret ?_ | refine kround_next ?_ | refine kloop_ret ?_ | refine kloop_exit ?_ | refine kcut_ret ?_ | refine kcut_exit ?_ | refine xo0 4000 rfl ?_ ?_ | refine xw0 4000 rfl ?_ ?_ | exact qq | fail)
  refine pop_dek (G := G) rfl rfl rfl rfl rfl rfl rfl rfl (fun _ => rfl) (dshield_t) hn (by omega) (by omega) rfl rfl ?_; rintro at_ _ b1 b2 ⟨x, rfl, hx, f1, d1, t1⟩
  repeat' (first | refine xo 4000 rfl ?_ ?_ | refine xw 4000 rfl ?_ ?_ | refine xk 4000 rfl ?_ ?_ | exact trivial | ((with_reducible (show AllP (_ :: _))); refine And.intro ?_ ?_) | refine xs rfl ?_ ?_ | refine xs_done ?_ | refine pcond_t rfl ?_ | refine pcond_f rfl ?_ | refine kround_exit ?_ | refine kround_ret ?_ | refine kround_next ?_ | refine kloop_ret ?_ | refine kloop_exit ?_ | refine kcut_ret ?_ | refine kcut_exit ?_ | refine xo0 4000 rfl ?_ ?_ | refine xw0 4000 rfl ?_ ?_ | exact qq | fail)
  refine pop_dek (G := G) rfl rfl rfl rfl rfl rfl rfl rfl (fun _ => rfl) (dorders_t) hn (by omega) (by omega) rfl rfl ?_; rintro at_ _ b1 b2 ⟨l, rfl, hl⟩
  repeat' (first | refine xo 4000 rfl ?_ ?_ | refine xw 4000 rfl ?_ ?_ | refine xk 4000 rfl ?_ ?_ | exact trivial | ((with_reducible (show AllP (_ :: _))); refine And.intro ?_ ?_) | refine xs rfl ?_ ?_ | refine xs_done ?_ | refine pcond_t rfl ?_ | refine pcond_f rfl ?_ | refine kround_exit ?_ | refine kround_ret ?_ | refine kround_next ?_ | refine kloop_ret ?_ | refine kloop_exit ?_ | refine kcut_ret ?_ | refine kcut_exit ?_ | refine xo0 4000 rfl ?_ ?_ | refine xw0 4000 rfl ?_ ?_ | exact qq | fail)
  refine pop_dek (G := G) rfl rfl rfl rfl rfl rfl rfl rfl (fun _ => rfl) (damount_t) hn (by omega) (by omega) rfl rfl ?_; rintro at_ _ b1 b2 ⟨nt, rfl, n0, n1⟩
  repeat' (first | refine xo 4000 rfl ?_ ?_ | refine xw 4000 rfl ?_ ?_ | refine xk 4000 rfl ?_ ?_ | exact trivial | ((with_reducible (show AllP (_ :: _))); refine And.intro ?_ ?_) | refine xs rfl ?_ ?_ | refine xs_done ?_ | refine pcond_t rfl ?_ | refine pcond_f rfl ?_ | refine kround_exit ?_ | refine kround_ret ?_ | refine kround_next ?_ | refine kloop_ret ?_ | refine kloop_exit ?_ | refine kcut_ret ?_ | refine kcut_exit ?_ | refine xo0 4000 rfl ?_ ?_ | refine xw0 4000 rfl ?_ ?_ | exact qq | fail)
  refine pop_dek (G := G) rfl rfl rfl rfl rfl rfl rfl rfl (fun _ => rfl) (dnext_t 4 (by omega) (by omega)) hn (by omega) (by omega) rfl rfl ?_; rintro at_ _ b1 b2 ⟨k, rfl, k0, k1⟩
  have hC : COk x nt k := ⟨hx, n0, by omega, k0, by omega⟩
  have c1 : chkS x nt k = 0 := chk_iff.2 hC
  have hO := ords_ok hl.ords
  obtain ⟨E, T, hA, q0⟩ := a_ok hl hC
  have q1 := protected_c x nt k
  rw [prot_eq c1] at q1
  have q2 := lower31g_c x nt k
  rw [low_eq c1] at q2
  have q3 := taken_c l.length (lF dO l) E hO.n16 (by have := hA.el; omega) T hA.b9 hA.at_
  have q4 := sum27_c E (by have := hA.el; omega) hA.am
  rw [hA.sum] at q4
  have ea : sumN l.length (ifS (pP (lF dO l)) T) = aS x nt k l.length (lF dO l) := by rw [hA.hT]; rfl
  have eb : sumN l.length (ifS (pO (lF dO l)) T) = bS x nt k l.length (lF dO l) := by rw [hA.hT]; rfl
  have eab : aS x nt k l.length (lF dO l) + bS x nt k l.length (lF dO l) = sumN l.length T := by rw [hA.hT]; exact ab_sum _ _ _ _ _
  have f2 := a_eq (x := x) (net := nt) (k := k) hO hC
  have f3 := b_eq (x := x) (net := nt) (k := k) hO
  have f4 := sum_bd (pP (lF dO l)) hA.b9 (Nat.le_refl _)
  have f5 := sum_bd (pO (lF dO l)) hA.b9 (Nat.le_refl _)
  have f6 := lw_bd hC
  have f7 := pt_bd hC
  have hl5 := hl.len
  rw [ea] at f4 q3
  rw [eb] at f5 q3
  rw [← eab] at q4
  generalize aS x nt k l.length (lF dO l) = a at *
  generalize bS x nt k l.length (lF dO l) = b at *
  have w1 : IntKind.i64.wrap (a + b) = a + b := w64 (by omega) (by omega)
  have w2 : IntKind.i64.wrap (nt - lwS x nt k) = nt - lwS x nt k := w64 (by omega) (by omega)
  have w3 : IntKind.i64.wrap (nt - ptS x nt k) = nt - ptS x nt k := w64 (by omega) (by omega)
  have w4 : IntKind.i64.wrap (nt - ptS x nt k - a) = nt - ptS x nt k - a := w64 (by omega) (by omega)
  have g1 : ¬ (nt - lwS x nt k < a) := by rw [f2]; split <;> omega
  have g2 : ¬ (mx0 (nt - ptS x nt k - a) < b) := by rw [f3]; split <;> omega
  repeat' (first | refine xo 4000 rfl ?_ ?_ | refine xw 4000 rfl ?_ ?_ | refine xk 4000 rfl ?_ ?_ | exact trivial | ((with_reducible (show AllP (_ :: _))); refine And.intro ?_ ?_) | refine xs rfl ?_ ?_ | refine xs_done ?_ | (refine pop_callc [] rfl rfl rfl rfl rfl rfl (fun _ h => by cases h) (q0) (args_cl _ rfl) ?_; rintro _ rfl) | refine pop_callv rfl rfl rfl rfl rfl (q1) rfl rfl rfl ?_ | refine xs_call rfl rfl rfl rfl rfl rfl (q1) rfl rfl rfl ?_ | refine xs_one (ch := []) rfl rfl rfl (pst_callv rfl rfl rfl rfl rfl (q1) rfl rfl rfl ?_) | refine pop_callgv rfl rfl rfl rfl rfl rfl (fun _ => q1) (by first | exact fun h => ⟨h, trivial⟩ | exact fun _ => trivial | exact fun h => ⟨h, h, trivial⟩) rfl rfl rfl ?_ | refine xs_one (ch := []) rfl rfl rfl (pst_callgv rfl rfl rfl rfl rfl rfl (fun _ => q1) (by first | exact fun h => ⟨h, trivial⟩ | exact fun _ => trivial | exact fun h => ⟨h, h, trivial⟩) rfl rfl rfl ?_) | refine pop_callv rfl rfl rfl rfl rfl (q2) rfl rfl rfl ?_ | refine xs_call rfl rfl rfl rfl rfl rfl (q2) rfl rfl rfl ?_ | refine xs_one (ch := []) rfl rfl rfl (pst_callv rfl rfl rfl rfl rfl (q2) rfl rfl rfl ?_) | refine pop_callgv rfl rfl rfl rfl rfl rfl (fun _ => q2) (by first | exact fun h => ⟨h, trivial⟩ | exact fun _ => trivial | exact fun h => ⟨h, h, trivial⟩) rfl rfl rfl ?_ | refine xs_one (ch := []) rfl rfl rfl (pst_callgv rfl rfl rfl rfl rfl rfl (fun _ => q2) (by first | exact fun h => ⟨h, trivial⟩ | exact fun _ => trivial | exact fun h => ⟨h, h, trivial⟩) rfl rfl rfl ?_) | refine pop_callv rfl rfl rfl rfl rfl (q3) rfl rfl rfl ?_ | refine xs_call rfl rfl rfl rfl rfl rfl (q3) rfl rfl rfl ?_ | refine xs_one (ch := []) rfl rfl rfl (pst_callv rfl rfl rfl rfl rfl (q3) rfl rfl rfl ?_) | refine pop_callgv rfl rfl rfl rfl rfl rfl (fun _ => q3) (by first | exact fun h => ⟨h, trivial⟩ | exact fun _ => trivial | exact fun h => ⟨h, h, trivial⟩) rfl rfl rfl ?_ | refine xs_one (ch := []) rfl rfl rfl (pst_callgv rfl rfl rfl rfl rfl rfl (fun _ => q3) (by first | exact fun h => ⟨h, trivial⟩ | exact fun _ => trivial | exact fun h => ⟨h, h, trivial⟩) rfl rfl rfl ?_) | refine pop_callv rfl rfl rfl rfl rfl (q4) rfl rfl rfl ?_ | refine xs_call rfl rfl rfl rfl rfl rfl (q4) rfl rfl rfl ?_ | refine xs_one (ch := []) rfl rfl rfl (pst_callv rfl rfl rfl rfl rfl (q4) rfl rfl rfl ?_) | refine pop_callgv rfl rfl rfl rfl rfl rfl (fun _ => q4) (by first | exact fun h => ⟨h, trivial⟩ | exact fun _ => trivial | exact fun h => ⟨h, h, trivial⟩) rfl rfl rfl ?_ | refine xs_one (ch := []) rfl rfl rfl (pst_callgv rfl rfl rfl rfl rfl rfl (fun _ => q4) (by first | exact fun h => ⟨h, trivial⟩ | exact fun _ => trivial | exact fun h => ⟨h, h, trivial⟩) rfl rfl rfl ?_) | refine pcond_t rfl ?_ | refine pcond_f rfl ?_ | refine kround_exit ?_ | refine kround_ret ?_ | refine kround_next ?_ | refine kloop_ret ?_ | refine kloop_exit ?_ | refine kcut_ret ?_ | refine kcut_exit ?_ | refine xo0 4000 rfl ?_ ?_ | refine xw0 4000 rfl ?_ ?_ | exact qq | fail)
  rw [w1, w2, w3, w4]
  refine pcond (b := false) ?_ ?_ ?_
  · refine eqB ?_
    have g3 : ¬ ((if nt - ptS x nt k - a < 0 then 0 else nt - ptS x nt k - a) < b) := g2
    simp [g1, g3]
  · intro h; cases h
  · intro _
    repeat' (first | refine xo 4000 rfl ?_ ?_ | refine xw 4000 rfl ?_ ?_ | refine xk 4000 rfl ?_ ?_ | exact trivial | ((with_reducible (show AllP (_ :: _))); refine And.intro ?_ ?_) | refine xs rfl ?_ ?_ | refine xs_done ?_ | refine pcond_t rfl ?_ | refine pcond_f rfl ?_ | refine kround_exit ?_ | refine kround_ret ?_ | refine kround_next ?_ | refine kloop_ret ?_ | refine kloop_exit ?_ | refine kcut_ret ?_ | refine kcut_exit ?_ | refine xo0 4000 rfl ?_ ?_ | refine xw0 4000 rfl ?_ ?_ | exact qq | fail)
    refine pcan (st' := ⟨[(5, vOs l.length (lF dO l)), (8, vEs E), (16, vi 0)], []⟩) (can_rowsv [] (k0_sel hk rfl) rfl (by (repeat (refine SelV.cons rfl rqq ?_)); exact SelV.nil) tmq) ?_
    refine ploop (fun q st => ∃ i : Nat, i ≤ l.length ∧ q = l.length - i ∧ st = ⟨[(5, vOs l.length (lF dO l)), (8, vEs E), (16, vi i)], []⟩) l.length ⟨0, by omega, rfl, rfl⟩ ?_
    rintro _ _ ⟨i, hi, rfl, rfl⟩
    repeat' (first | refine xo 4000 rfl ?_ ?_ | refine xw 4000 rfl ?_ ?_ | refine xk 4000 rfl ?_ ?_ | exact trivial | ((with_reducible (show AllP (_ :: _))); refine And.intro ?_ ?_) | refine xs rfl ?_ ?_ | refine xs_done ?_ | refine pcond_t rfl ?_ | refine pcond_f rfl ?_ | refine kround_exit ?_ | refine kround_ret ?_ | refine kround_next ?_ | refine kloop_ret ?_ | refine kloop_exit ?_ | refine kcut_ret ?_ | refine kcut_exit ?_ | refine xo0 4000 rfl ?_ ?_ | refine xw0 4000 rfl ?_ ?_ | exact qq | fail)
    refine pcond rfl ?_ ?_ <;> intro hc <;> simp at hc
    · have hw : IntKind.i64.wrap ((i : Int) + 1) = ((i + 1 : Nat) : Int) := w64 (by omega) (by omega)
      have hei : atE (lF dO l (i : Int).toNat).id E = T i := hA.at_ i hc
      have hcl : clmS (lF dO l (i : Int).toNat) = clO (lF dO l) i := rfl
      have hb := hA.bd i hc
      repeat' (first | refine xo 4000 rfl ?_ ?_ | refine xw 4000 rfl ?_ ?_ | refine xk 4000 rfl ?_ ?_ | exact trivial | ((with_reducible (show AllP (_ :: _))); refine And.intro ?_ ?_) | refine xs rfl ?_ ?_ | refine xs_done ?_ | refine pop_callv rfl rfl rfl rfl rfl (at26_c E _ (by have := hA.el; omega)) rfl rfl rfl ?_ | refine xs_call rfl rfl rfl rfl rfl rfl (at26_c E _ (by have := hA.el; omega)) rfl rfl rfl ?_ | refine xs_one (ch := []) rfl rfl rfl (pst_callv rfl rfl rfl rfl rfl (at26_c E _ (by have := hA.el; omega)) rfl rfl rfl ?_) | refine pop_callgv rfl rfl rfl rfl rfl rfl (fun _ => at26_c E _ (by have := hA.el; omega)) (by first | exact fun h => ⟨h, trivial⟩ | exact fun _ => trivial | exact fun h => ⟨h, h, trivial⟩) rfl rfl rfl ?_ | refine xs_one (ch := []) rfl rfl rfl (pst_callgv rfl rfl rfl rfl rfl rfl (fun _ => at26_c E _ (by have := hA.el; omega)) (by first | exact fun h => ⟨h, trivial⟩ | exact fun _ => trivial | exact fun h => ⟨h, h, trivial⟩) rfl rfl rfl ?_) | refine pop_callv rfl rfl rfl rfl rfl (claim_c _) rfl rfl rfl ?_ | refine xs_call rfl rfl rfl rfl rfl rfl (claim_c _) rfl rfl rfl ?_ | refine xs_one (ch := []) rfl rfl rfl (pst_callv rfl rfl rfl rfl rfl (claim_c _) rfl rfl rfl ?_) | refine pop_callgv rfl rfl rfl rfl rfl rfl (fun _ => claim_c _) (by first | exact fun h => ⟨h, trivial⟩ | exact fun _ => trivial | exact fun h => ⟨h, h, trivial⟩) rfl rfl rfl ?_ | refine xs_one (ch := []) rfl rfl rfl (pst_callgv rfl rfl rfl rfl rfl rfl (fun _ => claim_c _) (by first | exact fun h => ⟨h, trivial⟩ | exact fun _ => trivial | exact fun h => ⟨h, h, trivial⟩) rfl rfl rfl ?_) | refine pcond_t rfl ?_ | refine pcond_f rfl ?_ | refine kround_exit ?_ | refine kround_ret ?_ | refine kround_next ?_ | refine kloop_ret ?_ | refine kloop_exit ?_ | refine kcut_ret ?_ | refine kcut_exit ?_ | refine xo0 4000 rfl ?_ ?_ | refine xw0 4000 rfl ?_ ?_ | exact qq | fail)
      rw [hei, hcl]
      refine pcond (b := false) ?_ ?_ ?_
      · refine eqB ?_
        have h1 : ¬ (T i < 0) := by omega
        have h2 : ¬ (clO (lF dO l) i < T i) := by omega
        simp [h1, h2]
      · intro h; cases h
      · intro _
        repeat' (first | refine xo 4000 rfl ?_ ?_ | refine xw 4000 rfl ?_ ?_ | refine xk 4000 rfl ?_ ?_ | exact trivial | ((with_reducible (show AllP (_ :: _))); refine And.intro ?_ ?_) | refine xs rfl ?_ ?_ | refine xs_done ?_ | refine pcond_t rfl ?_ | refine pcond_f rfl ?_ | refine kround_exit ?_ | refine kround_ret ?_ | refine kround_next ?_ | refine kloop_ret ?_ | refine kloop_exit ?_ | refine kcut_ret ?_ | refine kcut_exit ?_ | refine xo0 4000 rfl ?_ ?_ | refine xw0 4000 rfl ?_ ?_ | exact qq | fail)
        rw [hw]
        exact kloop_next (l.length - (i + 1)) (can_sel [5, 8, 16]) (by omega) ⟨i + 1, by omega, rfl, rfl⟩
    · repeat' (first | refine xo 4000 rfl ?_ ?_ | refine xw 4000 rfl ?_ ?_ | refine xk 4000 rfl ?_ ?_ | exact trivial | ((with_reducible (show AllP (_ :: _))); refine And.intro ?_ ?_) | refine xs rfl ?_ ?_ | refine xs_done ?_ | refine pop_callv rfl rfl rfl rfl rfl (awake_c) rfl rfl rfl ?_ | refine xs_call rfl rfl rfl rfl rfl rfl (awake_c) rfl rfl rfl ?_ | refine xs_one (ch := []) rfl rfl rfl (pst_callv rfl rfl rfl rfl rfl (awake_c) rfl rfl rfl ?_) | refine pop_callgv rfl rfl rfl rfl rfl rfl (fun _ => awake_c) (by first | exact fun h => ⟨h, trivial⟩ | exact fun _ => trivial | exact fun h => ⟨h, h, trivial⟩) rfl rfl rfl ?_ | refine xs_one (ch := []) rfl rfl rfl (pst_callgv rfl rfl rfl rfl rfl rfl (fun _ => awake_c) (by first | exact fun h => ⟨h, trivial⟩ | exact fun _ => trivial | exact fun h => ⟨h, h, trivial⟩) rfl rfl rfl ?_) | refine pcond_t rfl ?_ | refine pcond_f rfl ?_ | refine kround_exit ?_ | refine kround_ret ?_ | refine kround_next ?_ | refine kloop_ret ?_ | refine kloop_exit ?_ | refine kcut_ret ?_ | refine kcut_exit ?_ | refine xo0 4000 rfl ?_ ?_ | refine xw0 4000 rfl ?_ ?_ | exact qq | fail)
      refine xdone ?_
      exact kretv rfl ⟨trivial, trivial⟩ rfl rfl
theorem gLeaves_walk (v : Value) (l : List Int) (w : World) (h : IntsAt w v l) : Calls G.P 7 #[v] w fun e w' => e = .returned (.bool true) ∧ Ext w w' := by
  have hl : l.length ≤ 9223372036854775807 := by obtain ⟨_, _, _, _, h, _⟩ := h; exact h
  exact law_of (vs := [v]) (gLeaves_law l.length (fun i => l.getD i 0) hl) ⟨h.rel _, trivial⟩
end Go.Proofs.Ytipdkompinnghaa
