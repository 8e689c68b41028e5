/- Package ratio: fractions. -/
import Derived.Test.YtgjabadcgndkhaaBase
set_option linter.unusedSimpArgs false
set_option linter.unusedVariables false
namespace Go.Proofs.Ytgjabadcgndkhaa
open Go.RowKit

theorem gcd_step (a b : Nat) (h : b ≠ 0) : Nat.gcd b (a % b) = Nat.gcd a b := by
  rw [Nat.gcd_comm a b, Nat.gcd_rec b a, Nat.gcd_comm]

set_option maxHeartbeats 400000 in
theorem gcd_any (a b : Nat) (w : World) (ha : a < 18446744073709551616) (hb : b < 18446744073709551616) :
    Calls Try.prog 40 #[.int .u64 a, .int .u64 b] w fun e w' => e = .returned (.int .u64 (Nat.gcd a b)) ∧ Ext w w' := by
  go_enter Try.func40, Try.ntmps40
  go_wp2
  go_loopw [0, 1] (fun x y wr => ∃ p q : Nat, Hid (Nat.gcd p q = Nat.gcd a b) ∧ p < 18446744073709551616 ∧ q < 18446744073709551616 ∧ x = .int .u64 p ∧ y = .int .u64 q ∧ Ext w wr) (fun _ y _ => (intOf y).toNat)
  case atStart => exact ⟨a, b, rfl, ha, hb, rfl, rfl, Ext.refl w⟩
  case round =>
    obtain ⟨p, q, hg, hp, hq, rfl, rfl, hx⟩ := hrel
    clear ha hb
    by_cases h0 : q = 0
    · subst h0
      go_wp2
      go_ret
      exact ⟨by rw [← hg.out]; simp, hx⟩
    · have hne : ((q : Int) == 0) = false := by simp [h0]
      have hne2 : ((q : Int) != 0) = true := by simp [h0]
      have hlt : p % q < q := Nat.mod_lt _ (by omega)
      have HS := Lib.hid (gcd_step p q h0)
      go_wp2
      go_quiet (fail)
      go_wp2
      go_roundw
      case rel => exact ⟨q, p % q, HS.out.trans hg, hq, by omega, rfl, rfl, hx.drewN _⟩
      case measure => simp [intOf]; omega

theorem gcdI_any (a b : Int) (w : World) (ha0 : 0 ≤ a) (ha : a < 18446744073709551616) (hb0 : 0 ≤ b) (hb : b < 18446744073709551616) :
    Calls Try.prog 40 #[.int .u64 a, .int .u64 b] w fun e w' => e = .returned (.int .u64 (Int.gcd a b)) ∧ Ext w w' := by
  obtain ⟨a, rfl⟩ := Int.eq_ofNat_of_zero_le ha0
  obtain ⟨b, rfl⟩ := Int.eq_ofNat_of_zero_le hb0
  exact (gcd_any a b w (by omega) (by omega)).mono fun _ _ ⟨he, h⟩ => ⟨by rw [he]; rfl, h⟩

set_option maxHeartbeats 400000 in
theorem magnitude_any (n : Int) (w : World) (h1 : -9223372036854775808 ≤ n) (h2 : n ≤ 9223372036854775807) :
    Calls Try.prog 41 #[.int .i64 n] w fun e w' => e = .returned (.int .u64 (n.natAbs : Int)) ∧ w = w' := by
  by_cases h : n < 0
  · go_enter Try.func41, Try.ntmps41
    go_wp2
    go_ret
    exact ⟨ret_int (by simp only [IntKind.wrap, IntKind.bits, IntKind.signed]; simp; omega), rfl⟩
  · go_enter Try.func41, Try.ntmps41
    go_wp2
    go_ret
    exact ⟨ret_int (by omega), rfl⟩
/-- a fraction in lowest terms and in range -/
def okR (n d : Int) : Bool := decide (1 ≤ d ∧ d ≤ 1000000 ∧ -1000000000000 ≤ n ∧ n ≤ 1000000000000 ∧ Int.gcd n d = 1)

set_option maxHeartbeats 400000 in
theorem ratioValid_any (n d : Int) (w : World) (h1 : -9223372036854775808 ≤ n) (h2 : n ≤ 9223372036854775807) :
    Calls Try.prog 36 #[.agg #[.int .i64 n, .int .i64 d]] w fun e w' => e = .returned (.bool (okR n d)) ∧ Ext w w' := by
  have hz0 : ∀ b, False → b < w.heap.size := fun _ h => h.elim
  by_cases hr : 1 ≤ d ∧ d ≤ 1000000 ∧ -1000000000000 ≤ n ∧ n ≤ 1000000000000
  · obtain ⟨r1, r2, r3, r4⟩ := hr
    go_enter Try.func36, Try.ntmps36
    go_wp2
    ((refine wp_region_gw (by kernel_rfl) (by kernel_rfl) ?_); (repeat (first | go_big_quiet_step ((first | (go_at_call 41; exact gw_same (magnitude_any _ _ (by omega) (by omega))) | (go_at_call 40; exact gw_call (gcdI_any _ _ _ (by omega) (by omega) (by omega) (by omega))))) | quiet_step ((first | (go_at_call 41; exact gw_same (magnitude_any _ _ (by omega) (by omega))) | (go_at_call 40; exact gw_call (gcdI_any _ _ _ (by omega) (by omega) (by omega) (by omega))))))); (refine wpQuiet_nil ?_); (rintro _ ⟨g, rfl⟩); (have hb := gw_ext _ g); (generalize gw _ g = w' at hb ⊢); obtain ⟨hz, hc, hf, hn, hl⟩ := ext_acc hb (by assumption) (by simp [go_sem]); try simp only [size_alloc, size_setCell, size_drewN, size_drew, false_or] at hz hc hf hn hl)
    go_wp2
    go_ret
    refine ⟨ret_bool ?_, ?_⟩
    · rw [Bool.eq_iff_iff]
      have hg : Int.gcd (n.natAbs : Int) d = Int.gcd n d := by simp [Int.gcd]
      simp only [okR, r1, r2, r3, r4, hg]
      simp
      omega
    · repeat (first | exact Ext.refl _ | refine Ext.alloc ?_ _ | refine Ext.setCell ?_ (by dsimp only; omega) _ | refine Ext.drewN ?_ _ | refine Ext.drew ?_ | refine Ext.trans ?_ (by assumption))
  · have he : okR n d = false := by simp only [okR, decide_eq_false_iff_not]; omega
    rw [he]; clear he
    go_enter Try.func36, Try.ntmps36
    go_wp2
    all_goals (first | (go_ret; exact ⟨rfl, (Ext.refl _).alloc _⟩) | (exfalso; omega))
end Go.Proofs.Ytgjabadcgndkhaa
