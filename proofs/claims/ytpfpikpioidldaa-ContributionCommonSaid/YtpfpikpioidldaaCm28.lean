/- payrolllaw28: ContributionCommon. -/
import Derived.Test.YtpfpikpioidldaaCm0
set_option linter.unusedSimpArgs false
set_option linter.unusedVariables false
set_option maxRecDepth 100000
namespace Go.Proofs.Ytpfpikpioidldaa
def rOne (k : Nat) (b : Int) : Row := ⟨.own, true, 1, 2, fun _ => nthP [.lsl 1 0 k, vi b]⟩
theorem argRot {mem : List Row} {L : List Nat} {l m t : Nat} {x : Nat → Emp} {F : Nat → Nat → PV} (htm : t < m) (hr : rowAt mem l = some ⟨.own, false, 0 + ((m : Int) - (t : Int)).toNat + ((t : Int) - ((0 : Nat) : Int)).toNat, 2, F⟩)
    (hF : F = appF (0 + ((m : Int) - (t : Int)).toNat) (fun q => tF cM x ((t : Int).toNat + (0 + q))) (fun a => tF cM x (((0 : Nat) : Int).toNat + a))) (hL : l ∈ L) : ArgOk mem L (.lsl l 0 (0 + ((m : Int) - (t : Int)).toNat + ((t : Int) - ((0 : Nat) : Int)).toNat)) (vMs m (rotE m t x)) := by
  have hN : 0 + ((m : Int) - (t : Int)).toNat + ((t : Int) - ((0 : Nat) : Int)).toNat = m := by omega
  rw [hN] at hr ⊢
  refine argLsl (r := ⟨.own, false, m, 2, F⟩) hr trivial hL (Nat.le_of_eq (Nat.zero_add _)) fun a ha b hb => ⟨?_, tF_cl cM_cl _ _ _⟩
  have hA : 0 + ((m : Int) - (t : Int)).toNat = m - t := by omega
  show F (0 + a) b = nthP (cM (rotE m t x a)) b
  rw [hF, hA, Nat.zero_add]
  unfold rotE
  by_cases h : a < m - t
  · rw [appF_lt _ _ h, if_pos h]
    show nthP (cM (x ((t : Int).toNat + (0 + a)))) b = _
    rw [show (t : Int).toNat + (0 + a) = t + a by omega]
  · rw [appF_ge _ _ (by omega), if_neg h]
    show nthP (cM (x (((0 : Nat) : Int).toNat + (a - (m - t))))) b = _
    rw [show ((0 : Nat) : Int).toNat + (a - (m - t)) = a - (m - t) by omega]
set_option maxHeartbeats 10000000 in
theorem conCommon_law (n : Nat) (g : Nat → Int) (turn : Int) (hn : n ≤ 9223372036854775807) : PureC G.P 11 [.vsl n 1 (tI g), vi turn] (fun r => r = vb true) := by
  refine pure_of (G := G.toPg) (fn := Try.f11) Try.func11 rfl rfl rfl ?_; intro Γ hk
  repeat' (first | refine xo 4000 rfl ?_ ?_ | refine xw 4000 rfl ?_ ?_ | refine xk 4000 rfl ?_ ?_ | exact trivial | ((with_reducible (show AllP (_ :: _))); refine And.intro ?_ ?_) | refine xs rfl ?_ ?_ | refine xs_done ?_ | refine pcond_t rfl ?_ | refine pcond_f rfl ?_ | refine kround_exit ?_ | refine kround_ret ?_ | refine kround_next ?_ | refine kloop_ret ?_ | refine kloop_exit ?_ | refine kcut_ret ?_ | refine kcut_exit ?_ | refine xo0 4000 rfl ?_ ?_ | refine xw0 4000 rfl ?_ ?_ | exact qq | fail)
  refine pop_rowsc [] rfl rfl rfl rfl rfl rfl .nil (dnew_c n g) (by exact ⟨PEq.refl _, trivial⟩) ?_
  rintro r rows ⟨rfl, rfl⟩
  refine ⟨_, _, rfl, ⟨tape_cl _ _ _, trivial⟩, rfl, ?_⟩
  repeat' (first | refine xo 4000 rfl ?_ ?_ | refine xw 4000 rfl ?_ ?_ | refine xk 4000 rfl ?_ ?_ | exact trivial | ((with_reducible (show AllP (_ :: _))); refine And.intro ?_ ?_) | refine xs rfl ?_ ?_ | refine xs_done ?_ | refine pcond_t rfl ?_ | refine pcond_f rfl ?_ | refine kround_exit ?_ | refine kround_ret ?_ | refine kround_next ?_ | refine kloop_ret ?_ | refine kloop_exit ?_ | refine kcut_ret ?_ | refine kcut_exit ?_ | refine xo0 4000 rfl ?_ ?_ | refine xw0 4000 rfl ?_ ?_ | exact qq | fail)
  refine pop_dek (G := G) rfl rfl rfl rfl rfl rfl rfl rfl (fun _ => rfl) (dscheme_t ⟨#[97]⟩ name_a) hn (by omega) (by omega) rfl rfl ?_; rintro at_ _ b1 b2 ⟨s, rfl, hcode, hS⟩
  have hs : s.code.size ≤ 9223372036854775807 := by rw [hcode]; decide
  repeat' (first | refine xo 4000 rfl ?_ ?_ | refine xw 4000 rfl ?_ ?_ | refine xk 4000 rfl ?_ ?_ | exact trivial | ((with_reducible (show AllP (_ :: _))); refine And.intro ?_ ?_) | refine xs rfl ?_ ?_ | refine xs_done ?_ | refine pcond_t rfl ?_ | refine pcond_f rfl ?_ | refine kround_exit ?_ | refine kround_ret ?_ | refine kround_next ?_ | refine kloop_ret ?_ | refine kloop_exit ?_ | refine kcut_ret ?_ | refine kcut_exit ?_ | refine xo0 4000 rfl ?_ ?_ | refine xw0 4000 rfl ?_ ?_ | exact qq | fail)
  refine pop_dek (G := G) rfl rfl rfl rfl rfl rfl rfl rfl (fun _ => rfl) (dnext_t 4 (by omega) (by omega)) hn (by omega) (by omega) rfl rfl ?_; rintro at_ _ b1 b2 ⟨k', rfl, k0, k1⟩
  obtain ⟨k, hkk⟩ := Int.eq_ofNat_of_zero_le k0
  subst hkk
  repeat' (first | refine xo 4000 rfl ?_ ?_ | refine xw 4000 rfl ?_ ?_ | refine xk 4000 rfl ?_ ?_ | exact trivial | ((with_reducible (show AllP (_ :: _))); refine And.intro ?_ ?_) | refine xs rfl ?_ ?_ | refine xs_done ?_ | refine pcond_t rfl ?_ | refine pcond_f rfl ?_ | refine kround_exit ?_ | refine kround_ret ?_ | refine kround_next ?_ | refine kloop_ret ?_ | refine kloop_exit ?_ | refine kcut_ret ?_ | refine kcut_exit ?_ | refine xo0 4000 rfl ?_ ?_ | refine xw0 4000 rfl ?_ ?_ | exact qq | fail)
  refine pop_dek (G := G) rfl rfl rfl rfl rfl rfl rfl rfl (fun _ => rfl) (dnext_t 4 (by omega) (by omega)) hn (by omega) (by omega) rfl rfl ?_; rintro at_ _ b1 b2 ⟨c, rfl, c0, c1⟩
  have hwc : IntKind.i64.wrap (1 + c) = 1 + c := w64 (by omega) (by omega)
  repeat' (first | refine xo 4000 rfl ?_ ?_ | refine xw 4000 rfl ?_ ?_ | refine xk 4000 rfl ?_ ?_ | exact trivial | ((with_reducible (show AllP (_ :: _))); refine And.intro ?_ ?_) | refine xs rfl ?_ ?_ | refine xs_done ?_ | refine pcond_t rfl ?_ | refine pcond_f rfl ?_ | refine kround_exit ?_ | refine kround_ret ?_ | refine kround_next ?_ | refine kloop_ret ?_ | refine kloop_exit ?_ | refine kcut_ret ?_ | refine kcut_exit ?_ | refine xo0 4000 rfl ?_ ?_ | refine xw0 4000 rfl ?_ ?_ | exact qq | fail)
  rw [hwc]
  refine pop_rowsc [0] rfl rfl rfl rfl rfl rfl (.cons rfl trivial (RowEq.cl (tape_cl _ _ _)) .nil) (demps_r n g _ (1 + c) k hn (by omega) (by omega) (by omega) (by omega) (by omega) (by omega)) (by exact ⟨PEq.refl _, PEq.refl _, PEq.refl _, trivial⟩) ?_
  rintro r rows ⟨at1, l, a1, a2, hlc, hl, h | h⟩
  · obtain ⟨rfl, _, _⟩ := h; simp at hlc; omega
  obtain ⟨hpos, rfl, rfl⟩ := h
  refine ⟨_, _, rfl, ⟨tape_cl _ _ _, o_cl cM_cl _ _ _, trivial⟩, rfl, ?_⟩
  obtain ⟨m, hm⟩ : ∃ m, m = l.length := ⟨_, rfl⟩
  obtain ⟨x, hx⟩ : ∃ x, x = lF dM l := ⟨_, rfl⟩
  rw [← hm] at hlc hpos ⊢
  rw [← hx]
  have hE : ∀ i, i < m → EGd k (x i) := fun i hi => by rw [hx]; exact hl _ (lF_mem (by omega))
  have hJ : JOk m x k := ⟨by omega, by omega, by omega, fun i hi => (hE i hi).n, fun i hi => by have h1 := (hE i hi).b0; have h2 := (hE i hi).b1; omega, fun i hi a ha => by have h1 := (hE i hi).w a (by rw [(hE i hi).n]; exact ha); omega⟩
  refine ocan ((can_frz [2] (by intro l hl; rw [hk]; exact Nat.zero_le _) rfl (tm := [(1, vi turn), (6, .ptr 1 0 0), (7, vi k), (31, vMs m x)]) (by exact ⟨.inl rfl, .inl rfl, .inl rfl, .inr (arg_o (s := .own) cM_cl rfl trivial (List.Mem.head _)), trivial⟩)).trans (can_rowsv [1] (rows := [rS s]) (tm := [(1, vi turn), (6, .ptr 0 0 0), (7, vi k), (31, vMs m x)]) (k0_sel hk rfl) rfl (.cons rfl rqq .nil) tmq)) ?_
  repeat' (first | refine xo 4000 rfl ?_ ?_ | refine xw 4000 rfl ?_ ?_ | refine xk 4000 rfl ?_ ?_ | exact trivial | ((with_reducible (show AllP (_ :: _))); refine And.intro ?_ ?_) | refine xs rfl ?_ ?_ | refine xs_done ?_ | refine pcond_t rfl ?_ | refine pcond_f rfl ?_ | refine kround_exit ?_ | refine kround_ret ?_ | refine kround_next ?_ | refine kloop_ret ?_ | refine kloop_exit ?_ | refine kcut_ret ?_ | refine kcut_exit ?_ | refine xo0 4000 rfl ?_ ?_ | refine xw0 4000 rfl ?_ ?_ | exact qq | fail)
  refine pcan (st' := ⟨[(1, vi turn), (6, .ptr 0 0 0), (7, vi k), (8, vMs m x), (9, .ptr 2 0 0), (10, vi 0)], [rS s, iRow k (perI x k 0), rOne k 0]⟩) (can_rowsv [0, 1, 2] (k0_sel hk rfl) rfl (.cons rfl rqq (.cons rfl (i_eq (Nat.le_refl _) (fun a ha => by show vi 0 = vi _; congr 2; unfold perI; split <;> rfl)) (.cons rfl rqq .nil))) tmq) ?_
  have e0 : perI x k 0 k = 0 := by unfold perI; rw [if_neg (Nat.lt_irrefl k)]; rfl
  refine ploop (fun q st => ∃ i : Nat, i ≤ m ∧ q = m - i ∧ st = ⟨[(1, vi turn), (6, .ptr 0 0 0), (7, vi k), (8, vMs m x), (9, .ptr 2 0 0), (10, vi i)], [rS s, iRow k (perI x k i), rOne k (perI x k i k)]⟩) m ⟨0, by omega, rfl, by rw [e0]; rfl⟩ ?_
  rintro _ _ ⟨i, hi, rfl, rfl⟩
  repeat' (first | refine xo 4000 rfl ?_ ?_ | refine xw 4000 rfl ?_ ?_ | refine xk 4000 rfl ?_ ?_ | exact trivial | ((with_reducible (show AllP (_ :: _))); refine And.intro ?_ ?_) | refine xs rfl ?_ ?_ | refine xs_done ?_ | refine pcond_t rfl ?_ | refine pcond_f rfl ?_ | refine kround_exit ?_ | refine kround_ret ?_ | refine kround_next ?_ | refine kloop_ret ?_ | refine kloop_exit ?_ | refine kcut_ret ?_ | refine kcut_exit ?_ | refine xo0 4000 rfl ?_ ?_ | refine xw0 4000 rfl ?_ ?_ | exact qq | fail)
  refine pcond rfl ?_ ?_ <;> intro hc3 <;> simp at hc3
  · have hw : IntKind.i64.wrap ((i : Int) + 1) = ((i + 1 : Nat) : Int) := w64 (by omega) (by omega)
    have pb := perJ_bd hJ hc3
    have hib := hJ.b i hc3
    have pk := perI_bd hJ hi k
    have hwb : IntKind.i64.wrap (perI x k i k + (x (i : Int).toNat).b) = perI x k (i + 1) k := by
      rw [show (i : Int).toNat = i by omega, w64 (by omega) (by omega), perI_succ, if_neg (Nat.lt_irrefl k)]
    repeat' (first | refine xo 4000 rfl ?_ ?_ | refine xw 4000 rfl ?_ ?_ | refine xk 4000 rfl ?_ ?_ | exact trivial | ((with_reducible (show AllP (_ :: _))); refine And.intro ?_ ?_) | refine xs rfl ?_ ?_ | refine xs_done ?_ | refine pcond_t rfl ?_ | refine pcond_f rfl ?_ | refine kround_exit ?_ | refine kround_ret ?_ | refine kround_next ?_ | refine kloop_ret ?_ | refine kloop_exit ?_ | refine kcut_ret ?_ | refine kcut_exit ?_ | refine xo0 4000 rfl ?_ ?_ | refine xw0 4000 rfl ?_ ?_ | exact qq | fail)
    (refine any_start [0,1] 10 rfl ?_); (first | refine any_take 0 rfl (by kernel_rfl) (by kernel_rfl) (by kernel_rfl) rfl rfl rfl rfl rfl qtk ?_ | refine any_take2 0 rfl (by kernel_rfl) (by kernel_rfl) (by kernel_rfl) rfl rfl rfl rfl trivial ?_ | (refine any_take 0 rfl (by kernel_rfl) (by kernel_rfl) (by kernel_rfl) rfl rfl rfl rfl rfl ?_ ?_; rotate_left)); (first | refine any_take 2 rfl (by kernel_rfl) (by kernel_rfl) (by kernel_rfl) rfl rfl rfl rfl rfl qtk ?_ | refine any_take2 2 rfl (by kernel_rfl) (by kernel_rfl) (by kernel_rfl) rfl rfl rfl rfl trivial ?_ | (refine any_take 2 rfl (by kernel_rfl) (by kernel_rfl) (by kernel_rfl) rfl rfl rfl rfl rfl ?_ ?_; rotate_left)); (first | refine any_take 3 rfl (by kernel_rfl) (by kernel_rfl) (by kernel_rfl) rfl rfl rfl rfl rfl qtk ?_ | refine any_take2 3 rfl (by kernel_rfl) (by kernel_rfl) (by kernel_rfl) rfl rfl rfl rfl trivial ?_ | (refine any_take 3 rfl (by kernel_rfl) (by kernel_rfl) (by kernel_rfl) rfl rfl rfl rfl rfl ?_ ?_; rotate_left)); (first | refine any_take 4 rfl (by kernel_rfl) (by kernel_rfl) (by kernel_rfl) rfl rfl rfl rfl rfl qtk ?_ | refine any_take2 4 rfl (by kernel_rfl) (by kernel_rfl) (by kernel_rfl) rfl rfl rfl rfl trivial ?_ | (refine any_take 4 rfl (by kernel_rfl) (by kernel_rfl) (by kernel_rfl) rfl rfl rfl rfl rfl ?_ ?_; rotate_left)); (first | refine any_take 5 rfl (by kernel_rfl) (by kernel_rfl) (by kernel_rfl) rfl rfl rfl rfl rfl qtk ?_ | refine any_take2 5 rfl (by kernel_rfl) (by kernel_rfl) (by kernel_rfl) rfl rfl rfl rfl trivial ?_ | (refine any_take 5 rfl (by kernel_rfl) (by kernel_rfl) (by kernel_rfl) rfl rfl rfl rfl rfl ?_ ?_; rotate_left)); (first | refine any_take 6 rfl (by kernel_rfl) (by kernel_rfl) (by kernel_rfl) rfl rfl rfl rfl rfl qtk ?_ | refine any_take2 6 rfl (by kernel_rfl) (by kernel_rfl) (by kernel_rfl) rfl rfl rfl rfl trivial ?_ | (refine any_take 6 rfl (by kernel_rfl) (by kernel_rfl) (by kernel_rfl) rfl rfl rfl rfl rfl ?_ ?_; rotate_left)); (first | refine any_one 1 rfl (by kernel_rfl) (ch := []) rfl rfl (pst_read rfl rfl rfl rfl trivial ?_) | refine any_one 1 rfl (by kernel_rfl) (ch := []) rfl rfl (pst_read rfl rfl rfl rfl Nat.zero_lt_one ?_) | refine any_one 1 rfl (by kernel_rfl) (ch := []) rfl rfl (pst_read rfl rfl rfl rfl (by exact ⟨by decide, by decide⟩) ?_) | refine any_one 1 rfl (by kernel_rfl) (ch := []) rfl rfl (pst_read rfl rfl rfl rfl (And.intro (by omega) (by omega)) ?_) | refine any_one 1 rfl (by kernel_rfl) (ch := []) rfl rfl (pst_read rfl rfl rfl rfl (show (_ : Nat) < _ from by first | omega | (simp only [iRow]; omega)) ?_) | refine any_one 1 rfl (by kernel_rfl) (ch := []) rfl rfl (pst_read rfl rfl rfl rfl (show (_ : Nat) < n from by omega) ?_) | (refine any_one 1 rfl (by kernel_rfl) (ch := []) rfl rfl (pst_read rfl rfl rfl rfl ?_ ?_); rotate_left)); (first | refine any_take 7 rfl (by kernel_rfl) (by kernel_rfl) (by kernel_rfl) rfl rfl rfl rfl rfl qtk ?_ | refine any_take2 7 rfl (by kernel_rfl) (by kernel_rfl) (by kernel_rfl) rfl rfl rfl rfl trivial ?_ | (refine any_take 7 rfl (by kernel_rfl) (by kernel_rfl) (by kernel_rfl) rfl rfl rfl rfl rfl ?_ ?_; rotate_left)); (first | refine any_take 8 rfl (by kernel_rfl) (by kernel_rfl) (by kernel_rfl) rfl rfl rfl rfl rfl qtk ?_ | refine any_take2 8 rfl (by kernel_rfl) (by kernel_rfl) (by kernel_rfl) rfl rfl rfl rfl trivial ?_ | (refine any_take 8 rfl (by kernel_rfl) (by kernel_rfl) (by kernel_rfl) rfl rfl rfl rfl rfl ?_ ?_; rotate_left)); (refine any_one 9 rfl (by kernel_rfl) (ch := [2]) rfl rfl ( pst_store rfl rfl rfl rfl Nat.zero_lt_one ?_)); (refine any_done (by kernel_rfl) ?_)
    rw [hwb]
    repeat' (first | refine xo 4000 rfl ?_ ?_ | refine xw 4000 rfl ?_ ?_ | refine xk 4000 rfl ?_ ?_ | exact trivial | ((with_reducible (show AllP (_ :: _))); refine And.intro ?_ ?_) | refine xs rfl ?_ ?_ | refine xs_done ?_ | refine pcond_t rfl ?_ | refine pcond_f rfl ?_ | refine kround_exit ?_ | refine kround_ret ?_ | refine kround_next ?_ | refine kloop_ret ?_ | refine kloop_exit ?_ | refine kcut_ret ?_ | refine kcut_exit ?_ | refine xo0 4000 rfl ?_ ?_ | refine xw0 4000 rfl ?_ ?_ | exact qq | fail)
    refine pcan (st' := ⟨[(1, vi turn), (6, .ptr 0 0 0), (7, vi k), (8, vMs m x), (9, .ptr 2 0 0), (10, vi i), (11, vi 0)], [rS s, iRow k (perJ x k i 0), rOne k (perI x k (i + 1) k)]⟩) (can_rowsv [0, 1, 2] (k0_sel hk rfl) rfl (.cons rfl rqq (.cons rfl (i_eq (Nat.le_refl _) (fun a ha => by show vi _ = vi _; rw [perJ_0])) (.cons rfl rqq .nil))) tmq) ?_
    refine ploop (fun q st => ∃ j : Nat, j ≤ k ∧ q = k - j ∧ st = ⟨[(1, vi turn), (6, .ptr 0 0 0), (7, vi k), (8, vMs m x), (9, .ptr 2 0 0), (10, vi i), (11, vi j)], [rS s, iRow k (perJ x k i j), rOne k (perI x k (i + 1) k)]⟩) k ⟨0, by omega, rfl, rfl⟩ ?_
    rintro _ _ ⟨j, hj2, rfl, rfl⟩
    have pj := pb j j
    repeat' (first | refine xo 4000 rfl ?_ ?_ | refine xw 4000 rfl ?_ ?_ | refine xk 4000 rfl ?_ ?_ | exact trivial | ((with_reducible (show AllP (_ :: _))); refine And.intro ?_ ?_) | refine xs rfl ?_ ?_ | refine xs_done ?_ | refine pcond_t rfl ?_ | refine pcond_f rfl ?_ | refine kround_exit ?_ | refine kround_ret ?_ | refine kround_next ?_ | refine kloop_ret ?_ | refine kloop_exit ?_ | refine kcut_ret ?_ | refine kcut_exit ?_ | refine xo0 4000 rfl ?_ ?_ | refine xw0 4000 rfl ?_ ?_ | exact qq | fail)
    refine pcond rfl ?_ ?_ <;> intro hc4 <;> simp at hc4
    · have hej := hJ.e i hc3 j hc4
      have hin := hJ.n i hc3
      have hin2 : (x (i : Int).toNat).n = k := hin
      have hwj : IntKind.i64.wrap ((j : Int) + 1) = ((j + 1 : Nat) : Int) := w64 (by omega) (by omega)
      have hwe : IntKind.i64.wrap (perJ x k i j (0 + (j : Int).toNat) + (x (i : Int).toNat).e (j : Int).toNat) = perJ x k i j j + (if j < k then (x i).e j else (x i).b) := by
        rw [show 0 + (j : Int).toNat = j by omega, show (j : Int).toNat = j by omega, show (i : Int).toNat = i by omega, if_pos hc4, w64 (by omega) (by omega)]
      repeat' (first | refine xo 4000 rfl ?_ ?_ | refine xw 4000 rfl ?_ ?_ | refine xk 4000 rfl ?_ ?_ | exact trivial | ((with_reducible (show AllP (_ :: _))); refine And.intro ?_ ?_) | refine xs rfl ?_ ?_ | refine xs_done ?_ | refine pcond_t rfl ?_ | refine pcond_f rfl ?_ | refine kround_exit ?_ | refine kround_ret ?_ | refine kround_next ?_ | refine kloop_ret ?_ | refine kloop_exit ?_ | refine kcut_ret ?_ | refine kcut_exit ?_ | refine xo0 4000 rfl ?_ ?_ | refine xw0 4000 rfl ?_ ?_ | exact qq | fail)
      (refine any_start [0,2] 16 rfl ?_); (first | refine any_take 0 rfl (by kernel_rfl) (by kernel_rfl) (by kernel_rfl) rfl rfl rfl rfl rfl qtk ?_ | refine any_take2 0 rfl (by kernel_rfl) (by kernel_rfl) (by kernel_rfl) rfl rfl rfl rfl trivial ?_ | (refine any_take 0 rfl (by kernel_rfl) (by kernel_rfl) (by kernel_rfl) rfl rfl rfl rfl rfl ?_ ?_; rotate_left)); (first | refine any_take 1 rfl (by kernel_rfl) (by kernel_rfl) (by kernel_rfl) rfl rfl rfl rfl rfl qtk ?_ | refine any_take2 1 rfl (by kernel_rfl) (by kernel_rfl) (by kernel_rfl) rfl rfl rfl rfl trivial ?_ | (refine any_take 1 rfl (by kernel_rfl) (by kernel_rfl) (by kernel_rfl) rfl rfl rfl rfl rfl ?_ ?_; rotate_left)); (first | refine any_take 2 rfl (by kernel_rfl) (by kernel_rfl) (by kernel_rfl) rfl rfl rfl rfl rfl qtk ?_ | refine any_take2 2 rfl (by kernel_rfl) (by kernel_rfl) (by kernel_rfl) rfl rfl rfl rfl trivial ?_ | (refine any_take 2 rfl (by kernel_rfl) (by kernel_rfl) (by kernel_rfl) rfl rfl rfl rfl rfl ?_ ?_; rotate_left)); (first | refine any_take 5 rfl (by kernel_rfl) (by kernel_rfl) (by kernel_rfl) rfl rfl rfl rfl rfl qtk ?_ | refine any_take2 5 rfl (by kernel_rfl) (by kernel_rfl) (by kernel_rfl) rfl rfl rfl rfl trivial ?_ | (refine any_take 5 rfl (by kernel_rfl) (by kernel_rfl) (by kernel_rfl) rfl rfl rfl rfl rfl ?_ ?_; rotate_left)); (first | refine any_take 6 rfl (by kernel_rfl) (by kernel_rfl) (by kernel_rfl) rfl rfl rfl rfl rfl qtk ?_ | refine any_take2 6 rfl (by kernel_rfl) (by kernel_rfl) (by kernel_rfl) rfl rfl rfl rfl trivial ?_ | (refine any_take 6 rfl (by kernel_rfl) (by kernel_rfl) (by kernel_rfl) rfl rfl rfl rfl rfl ?_ ?_; rotate_left)); (first | refine any_take 7 rfl (by kernel_rfl) (by kernel_rfl) (by kernel_rfl) rfl rfl rfl rfl rfl qtk ?_ | refine any_take2 7 rfl (by kernel_rfl) (by kernel_rfl) (by kernel_rfl) rfl rfl rfl rfl trivial ?_ | (refine any_take 7 rfl (by kernel_rfl) (by kernel_rfl) (by kernel_rfl) rfl rfl rfl rfl rfl ?_ ?_; rotate_left)); (first | refine any_take 8 rfl (by kernel_rfl) (by kernel_rfl) (by kernel_rfl) rfl rfl rfl rfl rfl qtk ?_ | refine any_take2 8 rfl (by kernel_rfl) (by kernel_rfl) (by kernel_rfl) rfl rfl rfl rfl trivial ?_ | (refine any_take 8 rfl (by kernel_rfl) (by kernel_rfl) (by kernel_rfl) rfl rfl rfl rfl rfl ?_ ?_; rotate_left)); (first | refine any_take 9 rfl (by kernel_rfl) (by kernel_rfl) (by kernel_rfl) rfl rfl rfl rfl rfl qtk ?_ | refine any_take2 9 rfl (by kernel_rfl) (by kernel_rfl) (by kernel_rfl) rfl rfl rfl rfl trivial ?_ | (refine any_take 9 rfl (by kernel_rfl) (by kernel_rfl) (by kernel_rfl) rfl rfl rfl rfl rfl ?_ ?_; rotate_left)); (first | refine any_take 10 rfl (by kernel_rfl) (by kernel_rfl) (by kernel_rfl) rfl rfl rfl rfl rfl qtk ?_ | refine any_take2 10 rfl (by kernel_rfl) (by kernel_rfl) (by kernel_rfl) rfl rfl rfl rfl trivial ?_ | (refine any_take 10 rfl (by kernel_rfl) (by kernel_rfl) (by kernel_rfl) rfl rfl rfl rfl rfl ?_ ?_; rotate_left)); (first | refine any_take 11 rfl (by kernel_rfl) (by kernel_rfl) (by kernel_rfl) rfl rfl rfl rfl rfl qtk ?_ | refine any_take2 11 rfl (by kernel_rfl) (by kernel_rfl) (by kernel_rfl) rfl rfl rfl rfl trivial ?_ | (refine any_take 11 rfl (by kernel_rfl) (by kernel_rfl) (by kernel_rfl) rfl rfl rfl rfl rfl ?_ ?_; rotate_left)); (first | refine any_take 12 rfl (by kernel_rfl) (by kernel_rfl) (by kernel_rfl) rfl rfl rfl rfl rfl qtk ?_ | refine any_take2 12 rfl (by kernel_rfl) (by kernel_rfl) (by kernel_rfl) rfl rfl rfl rfl trivial ?_ | (refine any_take 12 rfl (by kernel_rfl) (by kernel_rfl) (by kernel_rfl) rfl rfl rfl rfl rfl ?_ ?_; rotate_left)); (first | refine any_one 3 rfl (by kernel_rfl) (ch := []) rfl rfl (pst_read rfl rfl rfl rfl trivial ?_) | refine any_one 3 rfl (by kernel_rfl) (ch := []) rfl rfl (pst_read rfl rfl rfl rfl Nat.zero_lt_one ?_) | refine any_one 3 rfl (by kernel_rfl) (ch := []) rfl rfl (pst_read rfl rfl rfl rfl (by exact ⟨by decide, by decide⟩) ?_) | refine any_one 3 rfl (by kernel_rfl) (ch := []) rfl rfl (pst_read rfl rfl rfl rfl (And.intro (by omega) (by omega)) ?_) | refine any_one 3 rfl (by kernel_rfl) (ch := []) rfl rfl (pst_read rfl rfl rfl rfl (show (_ : Nat) < _ from by first | omega | (simp only [iRow]; omega)) ?_) | refine any_one 3 rfl (by kernel_rfl) (ch := []) rfl rfl (pst_read rfl rfl rfl rfl (show (_ : Nat) < n from by omega) ?_) | (refine any_one 3 rfl (by kernel_rfl) (ch := []) rfl rfl (pst_read rfl rfl rfl rfl ?_ ?_); rotate_left)); (first | refine any_one 4 rfl (by kernel_rfl) (ch := []) rfl rfl (pst_read rfl rfl rfl rfl trivial ?_) | refine any_one 4 rfl (by kernel_rfl) (ch := []) rfl rfl (pst_read rfl rfl rfl rfl Nat.zero_lt_one ?_) | refine any_one 4 rfl (by kernel_rfl) (ch := []) rfl rfl (pst_read rfl rfl rfl rfl (by exact ⟨by decide, by decide⟩) ?_) | refine any_one 4 rfl (by kernel_rfl) (ch := []) rfl rfl (pst_read rfl rfl rfl rfl (And.intro (by omega) (by omega)) ?_) | refine any_one 4 rfl (by kernel_rfl) (ch := []) rfl rfl (pst_read rfl rfl rfl rfl (show (_ : Nat) < _ from by first | omega | (simp only [iRow]; omega)) ?_) | refine any_one 4 rfl (by kernel_rfl) (ch := []) rfl rfl (pst_read rfl rfl rfl rfl (show (_ : Nat) < n from by omega) ?_) | (refine any_one 4 rfl (by kernel_rfl) (ch := []) rfl rfl (pst_read rfl rfl rfl rfl ?_ ?_); rotate_left)); (first | refine any_take 13 rfl (by kernel_rfl) (by kernel_rfl) (by kernel_rfl) rfl rfl rfl rfl rfl qtk ?_ | refine any_take2 13 rfl (by kernel_rfl) (by kernel_rfl) (by kernel_rfl) rfl rfl rfl rfl trivial ?_ | (refine any_take 13 rfl (by kernel_rfl) (by kernel_rfl) (by kernel_rfl) rfl rfl rfl rfl rfl ?_ ?_; rotate_left)); (first | refine any_one 14 rfl (by kernel_rfl) (ch := []) rfl rfl (pst_read rfl rfl rfl rfl trivial ?_) | refine any_one 14 rfl (by kernel_rfl) (ch := []) rfl rfl (pst_read rfl rfl rfl rfl Nat.zero_lt_one ?_) | refine any_one 14 rfl (by kernel_rfl) (ch := []) rfl rfl (pst_read rfl rfl rfl rfl (by exact ⟨by decide, by decide⟩) ?_) | refine any_one 14 rfl (by kernel_rfl) (ch := []) rfl rfl (pst_read rfl rfl rfl rfl (And.intro (by omega) (by omega)) ?_) | refine any_one 14 rfl (by kernel_rfl) (ch := []) rfl rfl (pst_read rfl rfl rfl rfl (show (_ : Nat) < _ from by first | omega | (simp only [iRow]; omega)) ?_) | refine any_one 14 rfl (by kernel_rfl) (ch := []) rfl rfl (pst_read rfl rfl rfl rfl (show (_ : Nat) < n from by omega) ?_) | (refine any_one 14 rfl (by kernel_rfl) (ch := []) rfl rfl (pst_read rfl rfl rfl rfl ?_ ?_); rotate_left)); (refine any_one 15 rfl (by kernel_rfl) (ch := [1]) rfl rfl ( pst_store rfl rfl rfl rfl (show (_ : Nat) < k from by omega) ?_)); (refine any_done (by kernel_rfl) ?_)
      rw [hwe]
      repeat' (first | refine xo 4000 rfl ?_ ?_ | refine xw 4000 rfl ?_ ?_ | refine xk 4000 rfl ?_ ?_ | exact trivial | ((with_reducible (show AllP (_ :: _))); refine And.intro ?_ ?_) | refine xs rfl ?_ ?_ | refine xs_done ?_ | refine pcond_t rfl ?_ | refine pcond_f rfl ?_ | refine kround_exit ?_ | refine kround_ret ?_ | refine kround_next ?_ | refine kloop_ret ?_ | refine kloop_exit ?_ | refine kcut_ret ?_ | refine kcut_exit ?_ | refine xo0 4000 rfl ?_ ?_ | refine xw0 4000 rfl ?_ ?_ | exact qq | fail)
      rw [hwj]
      refine kloop_next (st' := ⟨[(1, vi turn), (6, .ptr 0 0 0), (7, vi k), (8, vMs m x), (9, .ptr 2 0 0), (10, vi i), (11, vi ((j + 1 : Nat) : Int))], [rS s, iRow k (perJ x k i (j + 1)), rOne k (perI x k (i + 1) k)]⟩) (k - (j + 1)) (can_rowsv [0, 1, 2] (k0_sel hk rfl) rfl (.cons rfl rqq (.cons rfl (i_eq (Nat.le_refl _) (fun a ha => ?_)) (.cons rfl rqq .nil))) tmq) (by omega) ⟨j + 1, by omega, rfl, rfl⟩
      rw [upd_eq _ _ _ _ _ rfl]
      show vi (upd _ _ _ _) = vi _
      rw [← perJ_step]
      unfold upd
      rw [show 0 + (j : Int).toNat = j by omega]
    · have hjk : j = k := by omega
      repeat' (first | refine xo 4000 rfl ?_ ?_ | refine xw 4000 rfl ?_ ?_ | refine xk 4000 rfl ?_ ?_ | exact trivial | ((with_reducible (show AllP (_ :: _))); refine And.intro ?_ ?_) | refine xs rfl ?_ ?_ | refine xs_done ?_ | refine pcond_t rfl ?_ | refine pcond_f rfl ?_ | refine kround_exit ?_ | refine kround_ret ?_ | refine kround_next ?_ | refine kloop_ret ?_ | refine kloop_exit ?_ | refine kcut_ret ?_ | refine kcut_exit ?_ | refine xo0 4000 rfl ?_ ?_ | refine xw0 4000 rfl ?_ ?_ | exact qq | fail)
      rw [hw]
      refine kloop_next (st' := ⟨[(1, vi turn), (6, .ptr 0 0 0), (7, vi k), (8, vMs m x), (9, .ptr 2 0 0), (10, vi ((i + 1 : Nat) : Int))], [rS s, iRow k (perI x k (i + 1)), rOne k (perI x k (i + 1) k)]⟩) (m - (i + 1)) (can_rowsv [0, 1, 2] (k0_sel hk rfl) rfl (.cons rfl rqq (.cons rfl (i_eq (Nat.le_refl _) (fun a ha => ?_)) (.cons rfl rqq .nil))) tmq) (by omega) ⟨i + 1, by omega, rfl, rfl⟩
      show vi _ = vi _
      congr 2
      unfold perJ
      rw [if_pos (show a < j by omega)]
  have him : i = m := by omega
  rw [him]
  obtain ⟨P, hP⟩ : ∃ P, P = perI x k m := ⟨_, rfl⟩
  have hPb : ∀ a, 0 ≤ P a ∧ P a ≤ 8000000000 := fun a => by rw [hP]; exact perI_bd hJ (Nat.le_refl m) a
  have hP9 : ∀ a, a < k + 1 → P a ≤ 1000000000 := fun a ha => by
    have key : ∀ f : Nat → Int, (∀ q, q < m → f q ≤ 1000000) → sumN m f ≤ 1000000000 := fun f hf => by
      have h2 := sumN_le (n := m) (f := f) (g := fun _ => 1000000) hf
      rw [sumN_const] at h2
      omega
    rw [hP]; unfold perI
    split
    · exact key _ fun q hq => ((hE q hq).w a (by rw [(hE q hq).n]; assumption)).2
    · exact key _ fun q hq => by have := (hE q hq).b1; omega
  have hsn : ∀ a, a < k + 1 → snocF k P (P k) a = P a := fun a ha => by
    unfold snocF
    by_cases e : a < k
    · rw [if_pos e]
    · rw [if_neg e, show a = k by omega]
  obtain ⟨V, hV⟩ : ∃ V, V = lstS s (k + 1) P := ⟨_, rfl⟩
  have hvs := valS_iff.2 hS
  have hnx := conNext_c s k P (P k) hs
  have e1 : nxtS s k P (P k) = (V, 0) := by
    rw [nxtS, if_neg (by simp [hvs]), if_neg (by omega), if_neg, lst_eq hsn, ← hV]
    rw [Bool.not_eq_false]
    exact okW_iff.2 fun a ha => by rw [hsn a ha]; exact ⟨(hPb a).1, hP9 a ha⟩
  rw [e1] at hnx
  have hVn : 0 ≤ V.1 ∧ 0 ≤ V.2.1 ∧ 0 ≤ V.2.2 := by rw [hV]; exact lst_nn hS (fun a _ => (hPb a).1)
  have hVc : V.1 ≤ ((k : Int) + 1) * s.ce := by rw [hV]; exact lst_ce hS (fun a _ => (hPb a).1) (fun a _ => by have := (hPb a).2; omega) (by omega)
  obtain ⟨t, ht, htm⟩ : ∃ t : Nat, turn % (m : Int) = (t : Int) ∧ t < m := by
    have h1 := Int.emod_nonneg turn (show (m : Int) ≠ 0 by omega)
    have h2 := Int.emod_lt_of_pos turn (show (0 : Int) < m by omega)
    obtain ⟨t, ht⟩ := Int.eq_ofNat_of_zero_le h1
    exact ⟨t, ht, by omega⟩
  obtain ⟨y, hy⟩ : ∃ y, y = rotE m t x := ⟨_, rfl⟩
  have hJy : JOk m y k := by
    rw [hy]
    exact ⟨hJ.m1, hJ.m8, hJ.k60, rot_ok htm (Q := fun o => o.n = k) hJ.n, rot_ok htm (Q := fun o => 0 ≤ o.b ∧ o.b ≤ 1000000000) hJ.b, rot_ok htm (Q := fun o => ∀ a, a < k → 0 ≤ o.e a ∧ o.e a ≤ 1000000000) hJ.e⟩
  have hsx : ∀ i, i < m → (x i).n ≤ 9223372036854775807 := fun i hi => by rw [hJ.n i hi]; omega
  have hsy : ∀ i, i < m → (y i).n ≤ 9223372036854775807 := fun i hi => by rw [hJy.n i hi]; omega
  have qx := joint_c s m x hs (by omega) hsx
  have qy := joint_c s m y hs (by omega) hsy
  have ex : joiS s m x = divS m V (fun i => (x i).b) := by
    rw [joiS, if_neg (by simp [hvs]), if_neg (by simp [je_zero hJ]), hJ.n 0 hJ.m1, ← hP, ← hV]
  have ey : joiS s m y = divS m V (fun i => (y i).b) := by
    rw [joiS, if_neg (by simp [hvs]), if_neg (by simp [je_zero hJy]), hJy.n 0 hJy.m1, lst_eq (g := P) (fun a _ => by rw [hy, hP]; exact rot_per (by omega) x a), ← hV]
  rw [ex] at qx
  rw [ey] at qy
  rw [← hP]
  repeat' (first | refine xo 4000 rfl ?_ ?_ | refine xw 4000 rfl ?_ ?_ | refine xk 4000 rfl ?_ ?_ | exact trivial | ((with_reducible (show AllP (_ :: _))); refine And.intro ?_ ?_) | refine xs rfl ?_ ?_ | refine xs_done ?_ | refine pcond_t rfl ?_ | refine pcond_f rfl ?_ | refine kround_exit ?_ | refine kround_ret ?_ | refine kround_next ?_ | refine kloop_ret ?_ | refine kloop_exit ?_ | refine kcut_ret ?_ | refine kcut_exit ?_ | refine xo0 4000 rfl ?_ ?_ | refine xw0 4000 rfl ?_ ?_ | exact qq | fail)
  refine pop_callc [1] rfl rfl rfl rfl rfl rfl (by intro l hl; rw [hk]; exact Nat.zero_le _) hnx ⟨argCl (clA ⟨trivial, trivial, trivial, trivial, trivial, trivial, trivial, trivial, trivial⟩), argI (fun a ha => rfl) rfl (List.Mem.head _), argVal, trivial⟩ ?_
  rintro _ rfl
  repeat' (first | refine xo 4000 rfl ?_ ?_ | refine xw 4000 rfl ?_ ?_ | refine xk 4000 rfl ?_ ?_ | exact trivial | ((with_reducible (show AllP (_ :: _))); refine And.intro ?_ ?_) | refine xs rfl ?_ ?_ | refine xs_done ?_ | refine pop_callv rfl rfl rfl rfl rfl (dmod_c _ _ (by omega) (by omega)) rfl rfl rfl ?_ | refine xs_call rfl rfl rfl rfl rfl rfl (dmod_c _ _ (by omega) (by omega)) rfl rfl rfl ?_ | refine xs_one (ch := []) rfl rfl rfl (pst_callv rfl rfl rfl rfl rfl (dmod_c _ _ (by omega) (by omega)) rfl rfl rfl ?_) | refine pop_callgv rfl rfl rfl rfl rfl rfl (fun _ => dmod_c _ _ (by omega) (by omega)) (by first | exact fun h => ⟨h, trivial⟩ | exact fun _ => trivial | exact fun h => ⟨h, h, trivial⟩) rfl rfl rfl ?_ | refine xs_one (ch := []) rfl rfl rfl (pst_callgv rfl rfl rfl rfl rfl rfl (fun _ => dmod_c _ _ (by omega) (by omega)) (by first | exact fun h => ⟨h, trivial⟩ | exact fun _ => trivial | exact fun h => ⟨h, h, trivial⟩) rfl rfl rfl ?_) | refine pcond_t rfl ?_ | refine pcond_f rfl ?_ | refine kround_exit ?_ | refine kround_ret ?_ | refine kround_next ?_ | refine kloop_ret ?_ | refine kloop_exit ?_ | refine kcut_ret ?_ | refine kcut_exit ?_ | refine xo0 4000 rfl ?_ ?_ | refine xw0 4000 rfl ?_ ?_ | exact qq | fail)
  rw [ht]
  refine pcan (st' := ⟨[(6, .ptr 0 0 0), (7, vi k), (8, vMs m x), (12, .ptr 1 0 0), (13, vi 0), (14, vi t)], [rS s, rL V]⟩) (can_rowsv [0, 3] (k0_sel hk rfl) rfl (.cons rfl rqq (.cons rfl rqq .nil)) tmq) ?_
  (refine any_start [0,1] 10 rfl ?_); (first | refine any_take 1 rfl (by kernel_rfl) (by kernel_rfl) (by kernel_rfl) rfl rfl rfl rfl rfl qtk ?_ | refine any_take2 1 rfl (by kernel_rfl) (by kernel_rfl) (by kernel_rfl) rfl rfl rfl rfl trivial ?_ | (refine any_take 1 rfl (by kernel_rfl) (by kernel_rfl) (by kernel_rfl) rfl rfl rfl rfl rfl ?_ ?_; rotate_left)); (first | refine any_take 2 rfl (by kernel_rfl) (by kernel_rfl) (by kernel_rfl) rfl rfl rfl rfl rfl qtk ?_ | refine any_take2 2 rfl (by kernel_rfl) (by kernel_rfl) (by kernel_rfl) rfl rfl rfl rfl trivial ?_ | (refine any_take 2 rfl (by kernel_rfl) (by kernel_rfl) (by kernel_rfl) rfl rfl rfl rfl rfl ?_ ?_; rotate_left)); (first | refine any_take2 3 rfl (by kernel_rfl) (by kernel_rfl) (by kernel_rfl) rfl rfl rfl rfl qtk ?_ | (refine any_take2 3 rfl (by kernel_rfl) (by kernel_rfl) (by kernel_rfl) rfl rfl rfl rfl ?_ ?_; rotate_left)); (first | refine any_take 5 rfl (by kernel_rfl) (by kernel_rfl) (by kernel_rfl) rfl rfl rfl rfl rfl qtk ?_ | refine any_take2 5 rfl (by kernel_rfl) (by kernel_rfl) (by kernel_rfl) rfl rfl rfl rfl trivial ?_ | (refine any_take 5 rfl (by kernel_rfl) (by kernel_rfl) (by kernel_rfl) rfl rfl rfl rfl rfl ?_ ?_; rotate_left)); (first | refine any_take 6 rfl (by kernel_rfl) (by kernel_rfl) (by kernel_rfl) rfl rfl rfl rfl rfl qtk ?_ | refine any_take2 6 rfl (by kernel_rfl) (by kernel_rfl) (by kernel_rfl) rfl rfl rfl rfl trivial ?_ | (refine any_take 6 rfl (by kernel_rfl) (by kernel_rfl) (by kernel_rfl) rfl rfl rfl rfl rfl ?_ ?_; rotate_left)); (first | refine any_take2 7 rfl (by kernel_rfl) (by kernel_rfl) (by kernel_rfl) rfl rfl rfl rfl qtk ?_ | (refine any_take2 7 rfl (by kernel_rfl) (by kernel_rfl) (by kernel_rfl) rfl rfl rfl rfl ?_ ?_; rotate_left)); (refine any_one 0 rfl (by kernel_rfl) (ch := []) rfl rfl (pst_make rfl rfl rfl rfl trivial ?_)); (refine any_one 4 rfl (by kernel_rfl) (ch := [_]) rfl rfl ( pst_app rfl rfl rfl rfl (by exact ⟨trivial, (by rw [hk]; exact Nat.zero_le _), Nat.le_refl _, (show (0 + _ : Nat) * 32 ≤ 140737488355328 from by omega), (show (0 + _ : Nat) ≤ 9223372036854775807 from by omega)⟩) rfl ?_)); (refine any_one 8 rfl (by kernel_rfl) (ch := [_]) rfl rfl ( pst_app rfl rfl rfl rfl (by exact ⟨trivial, (by rw [hk]; exact Nat.zero_le _), Nat.le_of_eq (Nat.zero_add _), (show (_ : Nat) * 32 ≤ 140737488355328 from by omega), (show (_ : Nat) ≤ 9223372036854775807 from by omega)⟩) rfl ?_)); (first | refine any_take 9 rfl (by kernel_rfl) (by kernel_rfl) (by kernel_rfl) rfl rfl rfl rfl rfl qtk ?_ | refine any_take2 9 rfl (by kernel_rfl) (by kernel_rfl) (by kernel_rfl) rfl rfl rfl rfl trivial ?_ | (refine any_take 9 rfl (by kernel_rfl) (by kernel_rfl) (by kernel_rfl) rfl rfl rfl rfl rfl ?_ ?_; rotate_left)); (refine any_done (by kernel_rfl) ?_)
  rotate_left
  · exact (show True ∧ True ∧ (0 : Int) ≤ (t : Int) ∧ (t : Int) ≤ (m : Int) ∧ (m : Int) ≤ (m : Int) from ⟨trivial, trivial, by omega, by omega, by omega⟩)
  · exact (show True ∧ True ∧ (0 : Int) ≤ ((0 : Nat) : Int) ∧ ((0 : Nat) : Int) ≤ (t : Int) ∧ (t : Int) ≤ (m : Int) from ⟨trivial, trivial, by omega, by omega, by omega⟩)
  refine xk 2 rfl trivial ?_
  refine pcan ((can_frz [4] (by intro l hl; rw [hk]; exact Nat.zero_le _) rfl (tm := [(6, .ptr 0 0 0), (7, vi k), (8, vMs m x), (12, .ptr 1 0 0), (13, vi 0), (15, vMs m y)]) (by exact ⟨.inl rfl, .inl rfl, .inl rfl, .inl rfl, .inl rfl, .inr (by rw [hy]; exact argRot htm rfl rfl (List.Mem.head _)), trivial⟩)).trans (can_rowsv [0, 1] (rows := [rS s, rL V]) (tm := [(6, .ptr 0 0 0), (7, vi k), (8, vMs m x), (12, .ptr 1 0 0), (13, vi 0), (15, vMs m y)]) (k0_sel hk rfl) rfl (.cons rfl rqq (.cons rfl rqq .nil)) tmq)) ?_
  by_cases hov : 1000000000 < V.1 ∨ 1000000000 < V.2.1 ∨ 1000000000 < V.2.2
  · rw [divS, if_pos hov] at qx qy
    repeat' (first | refine xo 4000 rfl ?_ ?_ | refine xw 4000 rfl ?_ ?_ | refine xk 4000 rfl ?_ ?_ | exact trivial | ((with_reducible (show AllP (_ :: _))); refine And.intro ?_ ?_) | refine xs rfl ?_ ?_ | refine xs_done ?_ | (refine pop_callc [] rfl rfl rfl rfl rfl rfl (fun _ h => by cases h) (qx) (args_cl _ rfl) ?_; rintro _ rfl) | (refine pop_callc [] rfl rfl rfl rfl rfl rfl (fun _ h => by cases h) (qy) (args_cl _ rfl) ?_; rintro _ rfl) | refine pcond_t rfl ?_ | refine pcond_f rfl ?_ | refine kround_exit ?_ | refine kround_ret ?_ | refine kround_next ?_ | refine kloop_ret ?_ | refine kloop_exit ?_ | refine kcut_ret ?_ | refine kcut_exit ?_ | refine xo0 4000 rfl ?_ ?_ | refine xw0 4000 rfl ?_ ?_ | exact qq | fail)
    refine pcond (b := true) ?_ ?_ ?_
    · refine eqB ?_
      by_cases h1 : 1000000000 < V.1
      · simp [h1]
      · by_cases h2 : 1000000000 < V.2.1
        · simp [h2]
        · have h3 : 1000000000 < V.2.2 := by omega
          simp [h3]
    · intro _
      repeat' (first | refine xo 4000 rfl ?_ ?_ | refine xw 4000 rfl ?_ ?_ | refine xk 4000 rfl ?_ ?_ | exact trivial | ((with_reducible (show AllP (_ :: _))); refine And.intro ?_ ?_) | refine xs rfl ?_ ?_ | refine xs_done ?_ | refine pop_callv rfl rfl rfl rfl rfl (awake_c) rfl rfl rfl ?_ | refine xs_call rfl rfl rfl rfl rfl rfl (awake_c) rfl rfl rfl ?_ | refine xs_one (ch := []) rfl rfl rfl (pst_callv rfl rfl rfl rfl rfl (awake_c) rfl rfl rfl ?_) | refine pop_callgv rfl rfl rfl rfl rfl rfl (fun _ => awake_c) (by first | exact fun h => ⟨h, trivial⟩ | exact fun _ => trivial | exact fun h => ⟨h, h, trivial⟩) rfl rfl rfl ?_ | refine xs_one (ch := []) rfl rfl rfl (pst_callgv rfl rfl rfl rfl rfl rfl (fun _ => awake_c) (by first | exact fun h => ⟨h, trivial⟩ | exact fun _ => trivial | exact fun h => ⟨h, h, trivial⟩) rfl rfl rfl ?_) | refine pcond_t rfl ?_ | refine pcond_f rfl ?_ | refine kround_exit ?_ | refine kround_ret ?_ | refine kround_next ?_ | refine kloop_ret ?_ | refine kloop_exit ?_ | refine kcut_ret ?_ | refine kcut_exit ?_ | refine xo0 4000 rfl ?_ ?_ | refine xw0 4000 rfl ?_ ?_ | exact qq | fail)
      refine xdone ?_
      exact kretv rfl ⟨trivial, trivial⟩ rfl rfl
    · intro h; cases h
  · obtain ⟨F, eF, bF, sF⟩ := div_sum hJ.m1 hJ.m8 hJ.b hVn hov
    obtain ⟨F', eF', bF', sF'⟩ := div_sum hJy.m1 hJy.m8 hJy.b hVn hov
    rw [eF] at qx
    rw [eF'] at qy
    have u1 := sum28_c m F (by omega) bF
    have u2 := sum28_c m F' (by omega) bF'
    rw [sF] at u1
    rw [sF'] at u2
    repeat' (first | refine xo 4000 rfl ?_ ?_ | refine xw 4000 rfl ?_ ?_ | refine xk 4000 rfl ?_ ?_ | exact trivial | ((with_reducible (show AllP (_ :: _))); refine And.intro ?_ ?_) | refine xs rfl ?_ ?_ | refine xs_done ?_ | (refine pop_callc [] rfl rfl rfl rfl rfl rfl (fun _ h => by cases h) (qx) (args_cl _ rfl) ?_; rintro _ rfl) | (refine pop_callc [] rfl rfl rfl rfl rfl rfl (fun _ h => by cases h) (qy) (args_cl _ rfl) ?_; rintro _ rfl) | refine pcond_t rfl ?_ | refine pcond_f rfl ?_ | refine kround_exit ?_ | refine kround_ret ?_ | refine kround_next ?_ | refine kloop_ret ?_ | refine kloop_exit ?_ | refine kcut_ret ?_ | refine kcut_exit ?_ | refine xo0 4000 rfl ?_ ?_ | refine xw0 4000 rfl ?_ ?_ | exact qq | fail)
    refine pcond (b := false) ?_ ?_ ?_
    · refine eqB ?_
      have h1 : ¬ 1000000000 < V.1 := by omega
      have h2 : ¬ 1000000000 < V.2.1 := by omega
      have h3 : ¬ 1000000000 < V.2.2 := by omega
      simp [h1, h2, h3]
    · intro h; cases h
    · intro _
      have hce := hS.ce1
      have hce0 := hS.ce0
      have hw1 : IntKind.i64.wrap ((k : Int) + 1) = (k : Int) + 1 := w64 (by omega) (by omega)
      have hmul : 0 ≤ ((k : Int) + 1) * s.ce ∧ ((k : Int) + 1) * s.ce ≤ 4000000000 := by
        refine ⟨Int.mul_nonneg (by omega) (by omega), ?_⟩
        have : ((k : Int) + 1) * s.ce ≤ 4 * 1000000000 := Int.mul_le_mul (by omega) hce (by omega) (by omega)
        omega
      have hw2 : IntKind.i64.wrap (((k : Int) + 1) * s.ce) = ((k : Int) + 1) * s.ce := w64 (by omega) (by omega)
      repeat' (first | refine xo 4000 rfl ?_ ?_ | refine xw 4000 rfl ?_ ?_ | refine xk 4000 rfl ?_ ?_ | exact trivial | ((with_reducible (show AllP (_ :: _))); refine And.intro ?_ ?_) | refine xs rfl ?_ ?_ | refine xs_done ?_ | refine xs_start (id := 9) true [.take 0, .take 2, .take 3, .take 4, .take 5, .take 6, .one 1, .take 7, .take 8, .one 9] 0 rfl rfl (by kernel_rfl) ?_ | refine xs_start (id := 13) true [.take 0, .take 1, .take 2, .take 3, .take 5, .take 6, .take 7, .take 8, .take 9, .take 10, .take 11, .take 12, .one 4, .take 13, .take 14, .one 15] 0 rfl rfl (by kernel_rfl) ?_ | refine xs_start (id := 16) true [.take 1, .take 2, .take 3, .take 5, .take 6, .take 7, .one 0, .one 4, .one 8, .take 9] 0 rfl rfl (by kernel_rfl) ?_ | refine xs_start (id := 21) true [.take 0, .take 1, .take 2, .take 3, .take 4, .take 5, .take 6, .take 7, .take 8, .take 9, .take 10, .take 11, .take 12, .take 13, .take 14, .take 15, .take 16, .take 17, .take 18, .take 19, .take 20, .take 21, .take 23, .one 22, .take 24, .take 25, .take 26, .take 27, .take 29, .one 28, .take 30, .take 31, .take 32, .take 33, .take 34, .take 35, .take 36, .take 37, .take 38, .take 39, .take 40, .take 41, .take 42, .one 43, .take 44, .take 45] 0 rfl rfl (by kernel_rfl) ?_ | refine pop_callv rfl rfl rfl rfl rfl (u1) rfl rfl rfl ?_ | refine xs_call rfl rfl rfl rfl rfl rfl (u1) rfl rfl rfl ?_ | refine xs_one (ch := []) rfl rfl rfl (pst_callv rfl rfl rfl rfl rfl (u1) rfl rfl rfl ?_) | refine pop_callgv rfl rfl rfl rfl rfl rfl (fun _ => u1) (by first | exact fun h => ⟨h, trivial⟩ | exact fun _ => trivial | exact fun h => ⟨h, h, trivial⟩) rfl rfl rfl ?_ | refine xs_one (ch := []) rfl rfl rfl (pst_callgv rfl rfl rfl rfl rfl rfl (fun _ => u1) (by first | exact fun h => ⟨h, trivial⟩ | exact fun _ => trivial | exact fun h => ⟨h, h, trivial⟩) rfl rfl rfl ?_) | refine pop_callv rfl rfl rfl rfl rfl (u2) rfl rfl rfl ?_ | refine xs_call rfl rfl rfl rfl rfl rfl (u2) rfl rfl rfl ?_ | refine xs_one (ch := []) rfl rfl rfl (pst_callv rfl rfl rfl rfl rfl (u2) rfl rfl rfl ?_) | refine pop_callgv rfl rfl rfl rfl rfl rfl (fun _ => u2) (by first | exact fun h => ⟨h, trivial⟩ | exact fun _ => trivial | exact fun h => ⟨h, h, trivial⟩) rfl rfl rfl ?_ | refine xs_one (ch := []) rfl rfl rfl (pst_callgv rfl rfl rfl rfl rfl rfl (fun _ => u2) (by first | exact fun h => ⟨h, trivial⟩ | exact fun _ => trivial | exact fun h => ⟨h, h, trivial⟩) rfl rfl rfl ?_) | refine pop_callv rfl rfl rfl rfl rfl (awake_c) rfl rfl rfl ?_ | refine xs_call rfl rfl rfl rfl rfl rfl (awake_c) rfl rfl rfl ?_ | refine xs_one (ch := []) rfl rfl rfl (pst_callv rfl rfl rfl rfl rfl (awake_c) rfl rfl rfl ?_) | refine pop_callgv rfl rfl rfl rfl rfl rfl (fun _ => awake_c) (by first | exact fun h => ⟨h, trivial⟩ | exact fun _ => trivial | exact fun h => ⟨h, h, trivial⟩) rfl rfl rfl ?_ | refine xs_one (ch := []) rfl rfl rfl (pst_callgv rfl rfl rfl rfl rfl rfl (fun _ => awake_c) (by first | exact fun h => ⟨h, trivial⟩ | exact fun _ => trivial | exact fun h => ⟨h, h, trivial⟩) rfl rfl rfl ?_) | refine pcond_t rfl ?_ | refine pcond_f rfl ?_ | refine kround_exit ?_ | refine kround_ret ?_ | refine kround_next ?_ | refine kloop_ret ?_ | refine kloop_exit ?_ | refine kcut_ret ?_ | refine kcut_exit ?_ | refine xo0 4000 rfl ?_ ?_ | refine xw0 4000 rfl ?_ ?_ | exact qq | fail)
      refine xdone ?_
      refine kretv rfl ⟨trivial, trivial⟩ rfl (eqB ?_)
      rw [hw1, hw2]
      simp [hVc]
theorem conCommon_walk (v : Value) (l : List Int) (turn : Int) (w : World) (h : IntsAt w v l) : Calls G.P 11 #[v, .int .i64 turn] w fun e w' => e = .returned (.bool true) ∧ Ext w w' := by
  have hl : l.length ≤ 9223372036854775807 := by obtain ⟨_, _, _, _, h, _⟩ := h; exact h
  exact law_of (vs := [v, .int .i64 turn]) (conCommon_law l.length (fun i => l.getD i 0) turn hl) ⟨h.rel _, rfl, trivial⟩
end Go.Proofs.Ytpfpikpioidldaa
