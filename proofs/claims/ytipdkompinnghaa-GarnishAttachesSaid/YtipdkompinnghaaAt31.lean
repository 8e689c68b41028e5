/- payrollref31: Attach; payrolllaw31: GarnishAttaches. -/
import Derived.Test.YtipdkompinnghaaGar8
import Derived.Test.YtipdkompinnghaaBrg31
set_option linter.unusedSimpArgs false
set_option linter.unusedVariables false
set_option maxRecDepth 100000
namespace Go.Proofs.Ytipdkompinnghaa
theorem elt_zero (g : Nat → Ord) : ∀ n, eltS g (fun _ => 0) n = []
  | 0 => rfl
  | n + 1 => by rw [eltS_succ, elt_zero g n]; rfl
set_option maxHeartbeats 2000000 in
theorem attach31_c (x : Shd) (net k : Int) (n : Nat) (g : Nat → Ord) (hs : ∀ i, i < n → (g i).id.size ≤ 9223372036854775807) : PureC G.P 30 [vH x, vi net, vi k, vOs n g] (fun r => r = vAt (attS x net k n g)) := by
  refine pure_of (G := G.toPg) (fn := Try.f30) Try.func30 rfl rfl rfl ?_; intro Γ hk
  repeat' (first | refine xo 4000 rfl ?_ ?_ | refine xw 4000 rfl ?_ ?_ | refine xk 4000 rfl ?_ ?_ | exact trivial | ((with_reducible (show AllP (_ :: _))); refine And.intro ?_ ?_) | refine xs rfl ?_ ?_ | refine xs_done ?_ | refine pop_callv rfl rfl rfl rfl rfl (validShield31_c _) rfl rfl rfl ?_ | refine xs_call rfl rfl rfl rfl rfl rfl (validShield31_c _) rfl rfl rfl ?_ | refine xs_one (ch := []) rfl rfl rfl (pst_callv rfl rfl rfl rfl rfl (validShield31_c _) rfl rfl rfl ?_) | refine pop_callgv rfl rfl rfl rfl rfl rfl (fun _ => validShield31_c _) (by first | exact fun h => ⟨h, trivial⟩ | exact fun _ => trivial | exact fun h => ⟨h, h, trivial⟩) rfl rfl rfl ?_ | refine xs_one (ch := []) rfl rfl rfl (pst_callgv rfl rfl rfl rfl rfl rfl (fun _ => validShield31_c _) (by first | exact fun h => ⟨h, trivial⟩ | exact fun _ => trivial | exact fun h => ⟨h, h, trivial⟩) rfl rfl rfl ?_) | refine pop_callv rfl rfl rfl rfl rfl (validOrders31_c _ _ hs) rfl rfl rfl ?_ | refine xs_call rfl rfl rfl rfl rfl rfl (validOrders31_c _ _ hs) rfl rfl rfl ?_ | refine xs_one (ch := []) rfl rfl rfl (pst_callv rfl rfl rfl rfl rfl (validOrders31_c _ _ hs) rfl rfl rfl ?_) | refine pop_callgv rfl rfl rfl rfl rfl rfl (fun _ => validOrders31_c _ _ hs) (by first | exact fun h => ⟨h, trivial⟩ | exact fun _ => trivial | exact fun h => ⟨h, h, trivial⟩) rfl rfl rfl ?_ | refine xs_one (ch := []) rfl rfl rfl (pst_callgv rfl rfl rfl rfl rfl rfl (fun _ => validOrders31_c _ _ hs) (by first | exact fun h => ⟨h, trivial⟩ | exact fun _ => trivial | exact fun h => ⟨h, h, trivial⟩) rfl rfl rfl ?_) | refine pcond_t rfl ?_ | refine pcond_f rfl ?_ | refine kround_exit ?_ | refine kround_ret ?_ | refine kround_next ?_ | refine kloop_ret ?_ | refine kloop_exit ?_ | refine kcut_ret ?_ | refine kcut_exit ?_ | refine xo0 4000 rfl ?_ ?_ | refine xw0 4000 rfl ?_ ?_ | exact qq | fail)
  refine pcond (b := !(shdB x && ordsB n g)) ?_ ?_ ?_
  · refine eqB ?_; cases shdB x <;> cases ordsB n g <;> rfl
  · intro hc
    repeat' (first | refine xo 4000 rfl ?_ ?_ | refine xw 4000 rfl ?_ ?_ | refine xk 4000 rfl ?_ ?_ | exact trivial | ((with_reducible (show AllP (_ :: _))); refine And.intro ?_ ?_) | refine xs rfl ?_ ?_ | refine xs_done ?_ | refine pcond_t rfl ?_ | refine pcond_f rfl ?_ | refine kround_exit ?_ | refine kround_ret ?_ | refine kround_next ?_ | refine kloop_ret ?_ | refine kloop_exit ?_ | refine kcut_ret ?_ | refine kcut_exit ?_ | refine xo0 4000 rfl ?_ ?_ | refine xw0 4000 rfl ?_ ?_ | exact qq | fail)
    refine kret [] rfl ⟨trivial, trivial, trivial⟩ (qs := [vEs [], vi 1]) nilE ?_
    rw [attS, if_pos (by cases h : (shdB x && ordsB n g); rfl; rw [h] at hc; cases hc)]; rfl
  · intro hc
    have hv : (shdB x && ordsB n g) = true := by simpa using hc
    rw [attS, if_neg (by simp [hv])]
    simp only [Bool.and_eq_true] at hv
    repeat' (first | refine xo 4000 rfl ?_ ?_ | refine xw 4000 rfl ?_ ?_ | refine xk 4000 rfl ?_ ?_ | exact trivial | ((with_reducible (show AllP (_ :: _))); refine And.intro ?_ ?_) | refine xs rfl ?_ ?_ | refine xs_done ?_ | refine pop_callv rfl rfl rfl rfl rfl (lower31_c _ _ _) rfl rfl rfl ?_ | refine xs_call rfl rfl rfl rfl rfl rfl (lower31_c _ _ _) rfl rfl rfl ?_ | refine xs_one (ch := []) rfl rfl rfl (pst_callv rfl rfl rfl rfl rfl (lower31_c _ _ _) rfl rfl rfl ?_) | refine pop_callgv rfl rfl rfl rfl rfl rfl (fun _ => lower31_c _ _ _) (by first | exact fun h => ⟨h, trivial⟩ | exact fun _ => trivial | exact fun h => ⟨h, h, trivial⟩) rfl rfl rfl ?_ | refine xs_one (ch := []) rfl rfl rfl (pst_callgv rfl rfl rfl rfl rfl rfl (fun _ => lower31_c _ _ _) (by first | exact fun h => ⟨h, trivial⟩ | exact fun _ => trivial | exact fun h => ⟨h, h, trivial⟩) rfl rfl rfl ?_) | refine pcond_t rfl ?_ | refine pcond_f rfl ?_ | refine kround_exit ?_ | refine kround_ret ?_ | refine kround_next ?_ | refine kloop_ret ?_ | refine kloop_exit ?_ | refine kcut_ret ?_ | refine kcut_exit ?_ | refine xo0 4000 rfl ?_ ?_ | refine xw0 4000 rfl ?_ ?_ | exact qq | fail)
    by_cases hck : chkS x net k ≠ 0
    · have e1 : lowS x net k = (0, chkS x net k) := by rw [lowS, if_pos hck]
      rw [e1, if_pos hck]
      repeat' (first | refine xo 4000 rfl ?_ ?_ | refine xw 4000 rfl ?_ ?_ | refine xk 4000 rfl ?_ ?_ | exact trivial | ((with_reducible (show AllP (_ :: _))); refine And.intro ?_ ?_) | refine xs rfl ?_ ?_ | refine xs_done ?_ | refine pcond_t rfl ?_ | refine pcond_f rfl ?_ | refine kround_exit ?_ | refine kround_ret ?_ | refine kround_next ?_ | refine kloop_ret ?_ | refine kloop_exit ?_ | refine kcut_ret ?_ | refine kcut_exit ?_ | refine xo0 4000 rfl ?_ ?_ | refine xw0 4000 rfl ?_ ?_ | exact qq | fail)
      refine pcond rfl ?_ ?_ <;> intro hc2 <;> simp at hc2
      · repeat' (first | refine xo 4000 rfl ?_ ?_ | refine xw 4000 rfl ?_ ?_ | refine xk 4000 rfl ?_ ?_ | exact trivial | ((with_reducible (show AllP (_ :: _))); refine And.intro ?_ ?_) | refine xs rfl ?_ ?_ | refine xs_done ?_ | refine pcond_t rfl ?_ | refine pcond_f rfl ?_ | refine kround_exit ?_ | refine kround_ret ?_ | refine kround_next ?_ | refine kloop_ret ?_ | refine kloop_exit ?_ | refine kcut_ret ?_ | refine kcut_exit ?_ | refine xo0 4000 rfl ?_ ?_ | refine xw0 4000 rfl ?_ ?_ | exact qq | fail)
        exact kret [] rfl ⟨trivial, trivial, trivial⟩ (qs := [vEs [], vi (chkS x net k)]) nilE rfl
      · exact absurd hc2 hck
    · have hck : chkS x net k = 0 := by simpa using hck
      rw [low_eq hck, if_neg (by simp [hck])]
      repeat' (first | refine xo 4000 rfl ?_ ?_ | refine xw 4000 rfl ?_ ?_ | refine xk 4000 rfl ?_ ?_ | exact trivial | ((with_reducible (show AllP (_ :: _))); refine And.intro ?_ ?_) | refine xs rfl ?_ ?_ | refine xs_done ?_ | refine pop_callv rfl rfl rfl rfl rfl (protected31_c _ _ _) rfl rfl rfl ?_ | refine xs_call rfl rfl rfl rfl rfl rfl (protected31_c _ _ _) rfl rfl rfl ?_ | refine xs_one (ch := []) rfl rfl rfl (pst_callv rfl rfl rfl rfl rfl (protected31_c _ _ _) rfl rfl rfl ?_) | refine pop_callgv rfl rfl rfl rfl rfl rfl (fun _ => protected31_c _ _ _) (by first | exact fun h => ⟨h, trivial⟩ | exact fun _ => trivial | exact fun h => ⟨h, h, trivial⟩) rfl rfl rfl ?_ | refine xs_one (ch := []) rfl rfl rfl (pst_callgv rfl rfl rfl rfl rfl rfl (fun _ => protected31_c _ _ _) (by first | exact fun h => ⟨h, trivial⟩ | exact fun _ => trivial | exact fun h => ⟨h, h, trivial⟩) rfl rfl rfl ?_) | refine pcond_t rfl ?_ | refine pcond_f rfl ?_ | refine kround_exit ?_ | refine kround_ret ?_ | refine kround_next ?_ | refine kloop_ret ?_ | refine kloop_exit ?_ | refine kcut_ret ?_ | refine kcut_exit ?_ | refine xo0 4000 rfl ?_ ?_ | refine xw0 4000 rfl ?_ ?_ | exact qq | fail)
      rw [prot_eq hck]
      have hO := ords_ok hv.2
      have hA := asc_of hv.2
      have hC := chk_iff.1 hck
      have hpb := pt_bd hC
      have hlb := lw_bd hC
      have hn16 := hO.n16
      have hn1 := hC.n1
      have hn0 := hC.n0
      obtain ⟨T1, hT1⟩ : ∃ T1 : Nat → Int, T1 = fun j => if pP g j = true then tkS n (keyO g) (clO g) (pP g) (net - lwS x net k) j else (fun _ => 0) j := ⟨_, rfl⟩
      have sv1 := serve31_c n g hO hA true (pP g) (fun j => by unfold pP; cases h : decide ((g j).rk = 0) <;> simp_all) (key_p hO) (net - lwS x net k) (by omega) (by omega) (fun _ => 0) (fun _ _ _ => rfl)
      rw [elt_zero, ← hT1] at sv1
      have es : sumN n (ifS (pP g) (tkS n (keyO g) (clO g) (pP g) (net - lwS x net k))) = sumN n (tk1S x net k n g) := (sumN_congr fun i hi => tk1_eq hi).symm
      rw [es, a_sum] at sv1
      have ha := a_eq (x := x) (net := net) (k := k) hO hC
      have hw := want_nn hO
      have hab : 0 ≤ aS x net k n g ∧ aS x net k n g ≤ 1000000000 := by rw [ha]; split <;> omega
      have hfr : freeS x net k n g = (if net - ptS x net k - aS x net k n g < 0 then 0 else net - ptS x net k - aS x net k n g) := by unfold freeS; rw [a_sum]; rfl
      have hfb : 0 ≤ freeS x net k n g ∧ freeS x net k n g ≤ 1000000000 := by unfold freeS; rw [a_sum]; exact mx0_bd (by omega) (by omega)
      have sv2 := serve31_c n g hO hA false (pO g) (fun j => by unfold pO; cases h : decide ((g j).rk = 0) <;> simp_all) (key_o hO) (freeS x net k n g) hfb.1 hfb.2 T1 (fun j hj hp => by rw [hT1]; simp only; rw [if_neg]; simp [pO] at hp; simp [pP, hp])
      have eT : eltS g (fun j => if pO g j = true then tkS n (keyO g) (clO g) (pO g) (freeS x net k n g) j else T1 j) n = eltS g (tkA x net k n g) n := elt_congr fun j hj => by
        rw [tkA_eq hj, hT1]
        by_cases h : (g j).rk = 0 <;> simp [pO, pP, h]
      rw [eT] at sv2
      have w1 : IntKind.i64.wrap (net - lwS x net k) = net - lwS x net k := w64 (by omega) (by omega)
      have w2 : IntKind.i64.wrap (net - ptS x net k) = net - ptS x net k := w64 (by omega) (by omega)
      have w3 : IntKind.i64.wrap (net - ptS x net k - aS x net k n g) = net - ptS x net k - aS x net k n g := w64 (by omega) (by omega)
      repeat' (first | refine xo 4000 rfl ?_ ?_ | refine xw 4000 rfl ?_ ?_ | refine xk 4000 rfl ?_ ?_ | exact trivial | ((with_reducible (show AllP (_ :: _))); refine And.intro ?_ ?_) | refine xs rfl ?_ ?_ | refine xs_done ?_ | refine pcond_t rfl ?_ | refine pcond_f rfl ?_ | refine kround_exit ?_ | refine kround_ret ?_ | refine kround_next ?_ | refine kloop_ret ?_ | refine kloop_exit ?_ | refine kcut_ret ?_ | refine kcut_exit ?_ | refine xo0 4000 rfl ?_ ?_ | refine xw0 4000 rfl ?_ ?_ | exact qq | fail)
      rw [w1]
      refine pop_callc [] rfl rfl rfl rfl rfl rfl (fun _ h => by cases h) sv1 ⟨argNil, argVsl, argVal, argVal, trivial⟩ ?_
      rintro _ rfl
      repeat' (first | refine xo 4000 rfl ?_ ?_ | refine xw 4000 rfl ?_ ?_ | refine xk 4000 rfl ?_ ?_ | exact trivial | ((with_reducible (show AllP (_ :: _))); refine And.intro ?_ ?_) | refine xs rfl ?_ ?_ | refine xs_done ?_ | refine pcond_t rfl ?_ | refine pcond_f rfl ?_ | refine kround_exit ?_ | refine kround_ret ?_ | refine kround_next ?_ | refine kloop_ret ?_ | refine kloop_exit ?_ | refine kcut_ret ?_ | refine kcut_exit ?_ | refine xo0 4000 rfl ?_ ?_ | refine xw0 4000 rfl ?_ ?_ | exact qq | fail)
      rw [w2, w3, ← hfr]
      refine pop_callc [] rfl rfl rfl rfl rfl rfl (fun _ h => by cases h) sv2 ⟨argVsl, argVsl, argVal, argVal, trivial⟩ ?_
      rintro _ rfl
      repeat' (first | refine xo 4000 rfl ?_ ?_ | refine xw 4000 rfl ?_ ?_ | refine xk 4000 rfl ?_ ?_ | exact trivial | ((with_reducible (show AllP (_ :: _))); refine And.intro ?_ ?_) | refine xs rfl ?_ ?_ | refine xs_done ?_ | refine pcond_t rfl ?_ | refine pcond_f rfl ?_ | refine kround_exit ?_ | refine kround_ret ?_ | refine kround_next ?_ | refine kloop_ret ?_ | refine kloop_exit ?_ | refine kcut_ret ?_ | refine kcut_exit ?_ | refine xo0 4000 rfl ?_ ?_ | refine xw0 4000 rfl ?_ ?_ | exact qq | fail)
      refine xdone ?_
      exact kretv rfl ⟨trivial, trivial, trivial⟩ rfl rfl
theorem att_len {x : Shd} {net k : Int} {n : Nat} {g : Nat → Ord} (hn : n ≤ 20) : (attS x net k n g).1.length ≤ 1000 := by
  unfold attS
  split
  · simp
  · split
    · simp
    · have := elt_len g (tkA x net k n g) n
      simp only; omega
set_option maxHeartbeats 2000000 in
theorem gAttaches_law (n : Nat) (g : Nat → Int) (y : Shd) (m : Nat) (raw : Nat → Ord) (net dep : Int) (hn : n ≤ 9223372036854775807) (hm : m ≤ 9223372036854775807) (hs : ∀ i, i < m → (raw i).id.size ≤ 9223372036854775807) : PureC G.P 6 [.vsl n 1 (tI g), vH y, vOs m raw, vi net, vi dep] (fun r => r = vb true) := by
  refine pure_of (G := G.toPg) (fn := Try.f6) Try.func6 rfl rfl rfl ?_; intro Γ hk
  repeat' (first | refine xo 4000 rfl ?_ ?_ | refine xw 4000 rfl ?_ ?_ | refine xk 4000 rfl ?_ ?_ | exact trivial | ((with_reducible (show AllP (_ :: _))); refine And.intro ?_ ?_) | refine xs rfl ?_ ?_ | refine xs_done ?_ | refine pop_callv rfl rfl rfl rfl rfl (short_c _ _ hm) rfl rfl rfl ?_ | refine xs_call rfl rfl rfl rfl rfl rfl (short_c _ _ hm) rfl rfl rfl ?_ | refine xs_one (ch := []) rfl rfl rfl (pst_callv rfl rfl rfl rfl rfl (short_c _ _ hm) rfl rfl rfl ?_) | refine pop_callgv rfl rfl rfl rfl rfl rfl (fun _ => short_c _ _ hm) (by first | exact fun h => ⟨h, trivial⟩ | exact fun _ => trivial | exact fun h => ⟨h, h, trivial⟩) rfl rfl rfl ?_ | refine xs_one (ch := []) rfl rfl rfl (pst_callgv rfl rfl rfl rfl rfl rfl (fun _ => short_c _ _ hm) (by first | exact fun h => ⟨h, trivial⟩ | exact fun _ => trivial | exact fun h => ⟨h, h, trivial⟩) rfl rfl rfl ?_) | refine pcond_t rfl ?_ | refine pcond_f rfl ?_ | refine kround_exit ?_ | refine kround_ret ?_ | refine kround_next ?_ | refine kloop_ret ?_ | refine kloop_exit ?_ | refine kcut_ret ?_ | refine kcut_exit ?_ | refine xo0 4000 rfl ?_ ?_ | refine xw0 4000 rfl ?_ ?_ | exact qq | fail)
  refine pcond rfl ?_ ?_ <;> intro hsh
  · repeat' (first | refine xo 4000 rfl ?_ ?_ | refine xw 4000 rfl ?_ ?_ | refine xk 4000 rfl ?_ ?_ | exact trivial | ((with_reducible (show AllP (_ :: _))); refine And.intro ?_ ?_) | refine xs rfl ?_ ?_ | refine xs_done ?_ | refine pop_callv rfl rfl rfl rfl rfl (awake_c) rfl rfl rfl ?_ | refine xs_call rfl rfl rfl rfl rfl rfl (awake_c) rfl rfl rfl ?_ | refine xs_one (ch := []) rfl rfl rfl (pst_callv rfl rfl rfl rfl rfl (awake_c) rfl rfl rfl ?_) | refine pop_callgv rfl rfl rfl rfl rfl rfl (fun _ => awake_c) (by first | exact fun h => ⟨h, trivial⟩ | exact fun _ => trivial | exact fun h => ⟨h, h, trivial⟩) rfl rfl rfl ?_ | refine xs_one (ch := []) rfl rfl rfl (pst_callgv rfl rfl rfl rfl rfl rfl (fun _ => awake_c) (by first | exact fun h => ⟨h, trivial⟩ | exact fun _ => trivial | exact fun h => ⟨h, h, trivial⟩) rfl rfl rfl ?_) | refine pcond_t rfl ?_ | refine pcond_f rfl ?_ | refine kround_exit ?_ | refine kround_ret ?_ | refine kround_next ?_ | refine kloop_ret ?_ | refine kloop_exit ?_ | refine kcut_ret ?_ | refine kcut_exit ?_ | refine xo0 4000 rfl ?_ ?_ | refine xw0 4000 rfl ?_ ?_ | exact qq | fail)
    refine xdone ?_
    exact kretv rfl ⟨trivial, trivial⟩ rfl rfl
  · have hm20 : m ≤ 20 := (shortB_iff.1 (by simpa using hsh)).1
    repeat' (first | refine xo 4000 rfl ?_ ?_ | refine xw 4000 rfl ?_ ?_ | refine xk 4000 rfl ?_ ?_ | exact trivial | ((with_reducible (show AllP (_ :: _))); refine And.intro ?_ ?_) | refine xs rfl ?_ ?_ | refine xs_done ?_ | refine pcond_t rfl ?_ | refine pcond_f rfl ?_ | refine kround_exit ?_ | refine kround_ret ?_ | refine kround_next ?_ | refine kloop_ret ?_ | refine kloop_exit ?_ | refine kcut_ret ?_ | refine kcut_exit ?_ | refine xo0 4000 rfl ?_ ?_ | refine xw0 4000 rfl ?_ ?_ | exact qq | fail)
    refine pop_rowsc [] rfl rfl rfl rfl rfl rfl .nil (dnew_c n g) (by exact ⟨PEq.refl _, trivial⟩) ?_
    rintro r rows ⟨rfl, rfl⟩
    refine ⟨_, _, rfl, ⟨tape_cl _ _ _, trivial⟩, rfl, ?_⟩
    repeat' (first | refine xo 4000 rfl ?_ ?_ | refine xw 4000 rfl ?_ ?_ | refine xk 4000 rfl ?_ ?_ | exact trivial | ((with_reducible (show AllP (_ :: _))); refine And.intro ?_ ?_) | refine xs rfl ?_ ?_ | refine xs_done ?_ | refine pcond_t rfl ?_ | refine pcond_f rfl ?_ | refine kround_exit ?_ | refine kround_ret ?_ | refine kround_next ?_ | refine kloop_ret ?_ | refine kloop_exit ?_ | refine kcut_ret ?_ | refine kcut_exit ?_ | refine xo0 4000 rfl ?_ ?_ | refine xw0 4000 rfl ?_ ?_ | exact qq | fail)
    refine pop_dek (G := G) rfl rfl rfl rfl rfl rfl rfl rfl (fun _ => rfl) (dshield_t) hn (by omega) (by omega) rfl rfl ?_; rintro at_ _ b1 b2 ⟨x, rfl, hx, f1, d1, t1⟩
    repeat' (first | refine xo 4000 rfl ?_ ?_ | refine xw 4000 rfl ?_ ?_ | refine xk 4000 rfl ?_ ?_ | exact trivial | ((with_reducible (show AllP (_ :: _))); refine And.intro ?_ ?_) | refine xs rfl ?_ ?_ | refine xs_done ?_ | refine pcond_t rfl ?_ | refine pcond_f rfl ?_ | refine kround_exit ?_ | refine kround_ret ?_ | refine kround_next ?_ | refine kloop_ret ?_ | refine kloop_exit ?_ | refine kcut_ret ?_ | refine kcut_exit ?_ | refine xo0 4000 rfl ?_ ?_ | refine xw0 4000 rfl ?_ ?_ | exact qq | fail)
    refine pop_dek (G := G) rfl rfl rfl rfl rfl rfl rfl rfl (fun _ => rfl) (dorders_t) hn (by omega) (by omega) rfl rfl ?_; rintro at_ _ b1 b2 ⟨l, rfl, hl⟩
    repeat' (first | refine xo 4000 rfl ?_ ?_ | refine xw 4000 rfl ?_ ?_ | refine xk 4000 rfl ?_ ?_ | exact trivial | ((with_reducible (show AllP (_ :: _))); refine And.intro ?_ ?_) | refine xs rfl ?_ ?_ | refine xs_done ?_ | refine pcond_t rfl ?_ | refine pcond_f rfl ?_ | refine kround_exit ?_ | refine kround_ret ?_ | refine kround_next ?_ | refine kloop_ret ?_ | refine kloop_exit ?_ | refine kcut_ret ?_ | refine kcut_exit ?_ | refine xo0 4000 rfl ?_ ?_ | refine xw0 4000 rfl ?_ ?_ | exact qq | fail)
    refine pop_dek (G := G) rfl rfl rfl rfl rfl rfl rfl rfl (fun _ => rfl) (damount_t) hn (by omega) (by omega) rfl rfl ?_; rintro at_ _ b1 b2 ⟨nt, rfl, n0, n1⟩
    repeat' (first | refine xo 4000 rfl ?_ ?_ | refine xw 4000 rfl ?_ ?_ | refine xk 4000 rfl ?_ ?_ | exact trivial | ((with_reducible (show AllP (_ :: _))); refine And.intro ?_ ?_) | refine xs rfl ?_ ?_ | refine xs_done ?_ | refine pcond_t rfl ?_ | refine pcond_f rfl ?_ | refine kround_exit ?_ | refine kround_ret ?_ | refine kround_next ?_ | refine kloop_ret ?_ | refine kloop_exit ?_ | refine kcut_ret ?_ | refine kcut_exit ?_ | refine xo0 4000 rfl ?_ ?_ | refine xw0 4000 rfl ?_ ?_ | exact qq | fail)
    refine pop_dek (G := G) rfl rfl rfl rfl rfl rfl rfl rfl (fun _ => rfl) (dnext_t 4 (by omega) (by omega)) hn (by omega) (by omega) rfl rfl ?_; rintro at_ _ b1 b2 ⟨k, rfl, k0, k1⟩
    have hl5 := hl.len
    have q1 := attach_c x nt k l.length (lF dO l) hl.sz
    have q2 := attach31_c x nt k l.length (lF dO l) hl.sz
    have q3 := attach_c y net dep m raw hs
    have q4 := attach31_c y net dep m raw hs
    have l1 := att_len (x := x) (net := nt) (k := k) (n := l.length) (g := lF dO l) (by omega)
    have l2 := att_len (x := y) (net := net) (k := dep) (n := m) (g := raw) hm20
    generalize attS x nt k l.length (lF dO l) = X at *
    generalize attS y net dep m raw = Y at *
    obtain ⟨A, a⟩ := X
    obtain ⟨B, b⟩ := Y
    repeat' (first | refine xo 4000 rfl ?_ ?_ | refine xw 4000 rfl ?_ ?_ | refine xk 4000 rfl ?_ ?_ | exact trivial | ((with_reducible (show AllP (_ :: _))); refine And.intro ?_ ?_) | refine xs rfl ?_ ?_ | refine xs_done ?_ | (refine pop_callc [] rfl rfl rfl rfl rfl rfl (fun _ h => by cases h) (q1) (args_cl _ rfl) ?_; rintro _ rfl) | (refine pop_callc [] rfl rfl rfl rfl rfl rfl (fun _ h => by cases h) (q2) (args_cl _ rfl) ?_; rintro _ rfl) | (refine pop_callc [] rfl rfl rfl rfl rfl rfl (fun _ h => by cases h) (q3) (args_cl _ rfl) ?_; rintro _ rfl) | (refine pop_callc [] rfl rfl rfl rfl rfl rfl (fun _ h => by cases h) (q4) (args_cl _ rfl) ?_; rintro _ rfl) | refine pcond_t rfl ?_ | refine pcond_f rfl ?_ | refine kround_exit ?_ | refine kround_ret ?_ | refine kround_next ?_ | refine kloop_ret ?_ | refine kloop_exit ?_ | refine kcut_ret ?_ | refine kcut_exit ?_ | refine xo0 4000 rfl ?_ ?_ | refine xw0 4000 rfl ?_ ?_ | exact qq | fail)
    refine pcan (st' := ⟨[(2, vOs m raw), (16, vEs A), (17, vi a), (18, vEs A), (19, vi a), (20, vEs B), (21, vi b), (22, vEs B), (23, vi b), (24, vi 0)], []⟩) (can_rowsv [] (k0_sel hk rfl) rfl (by (repeat (refine SelV.cons rfl rqq ?_)); exact SelV.nil) tmq) ?_
    refine ploop (fun q st => ∃ i : Nat, i ≤ m ∧ q = m - i ∧ st = ⟨[(2, vOs m raw), (16, vEs A), (17, vi a), (18, vEs A), (19, vi a), (20, vEs B), (21, vi b), (22, vEs B), (23, vi b), (24, vi i)], []⟩) m ⟨0, by omega, rfl, rfl⟩ ?_
    rintro _ _ ⟨i, hi, rfl, rfl⟩
    repeat' (first | refine xo 4000 rfl ?_ ?_ | refine xw 4000 rfl ?_ ?_ | refine xk 4000 rfl ?_ ?_ | exact trivial | ((with_reducible (show AllP (_ :: _))); refine And.intro ?_ ?_) | refine xs rfl ?_ ?_ | refine xs_done ?_ | refine pcond_t rfl ?_ | refine pcond_f rfl ?_ | refine kround_exit ?_ | refine kround_ret ?_ | refine kround_next ?_ | refine kloop_ret ?_ | refine kloop_exit ?_ | refine kcut_ret ?_ | refine kcut_exit ?_ | refine xo0 4000 rfl ?_ ?_ | refine xw0 4000 rfl ?_ ?_ | exact qq | fail)
    refine pcond rfl ?_ ?_ <;> intro hc <;> simp at hc
    · have hw : IntKind.i64.wrap ((i : Int) + 1) = ((i + 1 : Nat) : Int) := w64 (by omega) (by omega)
      repeat' (first | refine xo 4000 rfl ?_ ?_ | refine xw 4000 rfl ?_ ?_ | refine xk 4000 rfl ?_ ?_ | exact trivial | ((with_reducible (show AllP (_ :: _))); refine And.intro ?_ ?_) | refine xs rfl ?_ ?_ | refine xs_done ?_ | refine xs_start (id := 13) true [.take 0, .take 1, .take 2, .take 3, .take 5, .take 6, .take 7, .take 8, .one 4, .one 9, .take 10] 0 rfl rfl (by kernel_rfl) ?_ | refine pop_callv rfl rfl rfl rfl rfl (claim_c _) rfl rfl rfl ?_ | refine xs_call rfl rfl rfl rfl rfl rfl (claim_c _) rfl rfl rfl ?_ | refine xs_one (ch := []) rfl rfl rfl (pst_callv rfl rfl rfl rfl rfl (claim_c _) rfl rfl rfl ?_) | refine pop_callgv rfl rfl rfl rfl rfl rfl (fun _ => claim_c _) (by first | exact fun h => ⟨h, trivial⟩ | exact fun _ => trivial | exact fun h => ⟨h, h, trivial⟩) rfl rfl rfl ?_ | refine xs_one (ch := []) rfl rfl rfl (pst_callgv rfl rfl rfl rfl rfl rfl (fun _ => claim_c _) (by first | exact fun h => ⟨h, trivial⟩ | exact fun _ => trivial | exact fun h => ⟨h, h, trivial⟩) rfl rfl rfl ?_) | refine pop_callv rfl rfl rfl rfl rfl (claim31_c _) rfl rfl rfl ?_ | refine xs_call rfl rfl rfl rfl rfl rfl (claim31_c _) rfl rfl rfl ?_ | refine xs_one (ch := []) rfl rfl rfl (pst_callv rfl rfl rfl rfl rfl (claim31_c _) rfl rfl rfl ?_) | refine pop_callgv rfl rfl rfl rfl rfl rfl (fun _ => claim31_c _) (by first | exact fun h => ⟨h, trivial⟩ | exact fun _ => trivial | exact fun h => ⟨h, h, trivial⟩) rfl rfl rfl ?_ | refine xs_one (ch := []) rfl rfl rfl (pst_callgv rfl rfl rfl rfl rfl rfl (fun _ => claim31_c _) (by first | exact fun h => ⟨h, trivial⟩ | exact fun _ => trivial | exact fun h => ⟨h, h, trivial⟩) rfl rfl rfl ?_) | refine pcond_t rfl ?_ | refine pcond_f rfl ?_ | refine kround_exit ?_ | refine kround_ret ?_ | refine kround_next ?_ | refine kloop_ret ?_ | refine kloop_exit ?_ | refine kcut_ret ?_ | refine kcut_exit ?_ | refine xo0 4000 rfl ?_ ?_ | refine xw0 4000 rfl ?_ ?_ | exact qq | fail)
      refine pcond rfl ?_ ?_ <;> intro hc2
      · simp at hc2
      · repeat' (first | refine xo 4000 rfl ?_ ?_ | refine xw 4000 rfl ?_ ?_ | refine xk 4000 rfl ?_ ?_ | exact trivial | ((with_reducible (show AllP (_ :: _))); refine And.intro ?_ ?_) | refine xs rfl ?_ ?_ | refine xs_done ?_ | refine pcond_t rfl ?_ | refine pcond_f rfl ?_ | refine kround_exit ?_ | refine kround_ret ?_ | refine kround_next ?_ | refine kloop_ret ?_ | refine kloop_exit ?_ | refine kcut_ret ?_ | refine kcut_exit ?_ | refine xo0 4000 rfl ?_ ?_ | refine xw0 4000 rfl ?_ ?_ | exact qq | fail)
        rw [hw]
        exact kloop_next (m - (i + 1)) (can_sel [2, 16, 17, 18, 19, 20, 21, 22, 23, 24]) (by omega) ⟨i + 1, by omega, rfl, rfl⟩
    · repeat' (first | refine xo 4000 rfl ?_ ?_ | refine xw 4000 rfl ?_ ?_ | refine xk 4000 rfl ?_ ?_ | exact trivial | ((with_reducible (show AllP (_ :: _))); refine And.intro ?_ ?_) | refine xs rfl ?_ ?_ | refine xs_done ?_ | refine pop_callv rfl rfl rfl rfl rfl (same26_c A l1) rfl rfl rfl ?_ | refine xs_call rfl rfl rfl rfl rfl rfl (same26_c A l1) rfl rfl rfl ?_ | refine xs_one (ch := []) rfl rfl rfl (pst_callv rfl rfl rfl rfl rfl (same26_c A l1) rfl rfl rfl ?_) | refine pop_callgv rfl rfl rfl rfl rfl rfl (fun _ => same26_c A l1) (by first | exact fun h => ⟨h, trivial⟩ | exact fun _ => trivial | exact fun h => ⟨h, h, trivial⟩) rfl rfl rfl ?_ | refine xs_one (ch := []) rfl rfl rfl (pst_callgv rfl rfl rfl rfl rfl rfl (fun _ => same26_c A l1) (by first | exact fun h => ⟨h, trivial⟩ | exact fun _ => trivial | exact fun h => ⟨h, h, trivial⟩) rfl rfl rfl ?_) | refine pop_callv rfl rfl rfl rfl rfl (same26_c B l2) rfl rfl rfl ?_ | refine xs_call rfl rfl rfl rfl rfl rfl (same26_c B l2) rfl rfl rfl ?_ | refine xs_one (ch := []) rfl rfl rfl (pst_callv rfl rfl rfl rfl rfl (same26_c B l2) rfl rfl rfl ?_) | refine pop_callgv rfl rfl rfl rfl rfl rfl (fun _ => same26_c B l2) (by first | exact fun h => ⟨h, trivial⟩ | exact fun _ => trivial | exact fun h => ⟨h, h, trivial⟩) rfl rfl rfl ?_ | refine xs_one (ch := []) rfl rfl rfl (pst_callgv rfl rfl rfl rfl rfl rfl (fun _ => same26_c B l2) (by first | exact fun h => ⟨h, trivial⟩ | exact fun _ => trivial | exact fun h => ⟨h, h, trivial⟩) rfl rfl rfl ?_) | refine pop_callv rfl rfl rfl rfl rfl (awake_c) rfl rfl rfl ?_ | refine xs_call rfl rfl rfl rfl rfl rfl (awake_c) rfl rfl rfl ?_ | refine xs_one (ch := []) rfl rfl rfl (pst_callv rfl rfl rfl rfl rfl (awake_c) rfl rfl rfl ?_) | refine pop_callgv rfl rfl rfl rfl rfl rfl (fun _ => awake_c) (by first | exact fun h => ⟨h, trivial⟩ | exact fun _ => trivial | exact fun h => ⟨h, h, trivial⟩) rfl rfl rfl ?_ | refine xs_one (ch := []) rfl rfl rfl (pst_callgv rfl rfl rfl rfl rfl rfl (fun _ => awake_c) (by first | exact fun h => ⟨h, trivial⟩ | exact fun _ => trivial | exact fun h => ⟨h, h, trivial⟩) rfl rfl rfl ?_) | refine pcond_t rfl ?_ | refine pcond_f rfl ?_ | refine kround_exit ?_ | refine kround_ret ?_ | refine kround_next ?_ | refine kloop_ret ?_ | refine kloop_exit ?_ | refine kcut_ret ?_ | refine kcut_exit ?_ | refine xo0 4000 rfl ?_ ?_ | refine xw0 4000 rfl ?_ ?_ | exact qq | fail)
      refine xdone ?_
      refine kretv rfl ⟨trivial, trivial⟩ rfl (eqB ?_)
      simp
theorem gAttaches_walk (v : Value) (l : List Int) (y0 y1 y2 y3 y4 : Int) (v2 : Value) (m : Nat) (raw : Nat → Ord) (net dep : Int) (w : World) (h : IntsAt w v l) (h2 : OrdsAt w v2 m raw) : Calls G.P 6 #[v, .agg #[.int .i64 y0, .int .i64 y1, .int .i64 y2, .int .i64 y3, .int .i64 y4], v2, .int .i64 net, .int .i64 dep] w fun e w' => e = .returned (.bool true) ∧ Ext w w' := by
  have hl : l.length ≤ 9223372036854775807 := by obtain ⟨_, _, _, _, h, _⟩ := h; exact h
  refine law_of (vs := [v, .agg #[.int .i64 y0, .int .i64 y1, .int .i64 y2, .int .i64 y3, .int .i64 y4], v2, .int .i64 net, .int .i64 dep]) (gAttaches_law l.length _ ⟨y0, y1, y2, y3, y4⟩ m raw net dep hl h2.1.le h2.2) ⟨h.rel _, ⟨_, rfl, rfl, fun i hi => ?_⟩, h2.rel _, rfl, rfl, trivial⟩
  rcases (by omega : i = 0 ∨ i = 1 ∨ i = 2 ∨ i = 3 ∨ i = 4) with rfl | rfl | rfl | rfl | rfl <;> exact ⟨rfl, rfl⟩
end Go.Proofs.Ytipdkompinnghaa
