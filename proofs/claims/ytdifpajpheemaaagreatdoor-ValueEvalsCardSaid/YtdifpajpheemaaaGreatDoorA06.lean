/- Package ratio: which fractions are valid. -/
import Derived.Test.YtdifpajpheemaaaGreatDoorA04
import Derived.Test.YtdifpajpheemaaaGreatDoorA05
set_option linter.unusedSimpArgs false
set_option linter.unusedVariables false
set_option maxRecDepth 100000
namespace Go.Proofs.YtdifpajpheemaaaGreatDoor
theorem gcd_c (a b : Nat) (ha : a < 18446744073709551616) (hb : b < 18446744073709551616) : PureC G.P 84 [vu a, vu b] (fun r => r = vu (Nat.gcd a b)) := by
  refine pure_of (G := G.toPg) (fn := Tryz.f84) Tryz.func84 rfl rfl rfl ?_; intro Γ hk
  repeat' (first | ((with_reducible (show POps _ _ _ _ (_ :: _) _ _)); (first | refine pop_read rfl rfl rfl rfl trivial ?_ | refine pop_guard rfl rfl rfl rfl rfl qgd ?_ | refine pop_new rfl rfl rfl rfl trivial ?_ | refine pop_store rfl rfl rfl Nat.zero_lt_one ?_ | refine pop_read rfl rfl rfl rfl qrd ?_ | refine pop_read2 rfl rfl rfl rfl trivial ?_ | refine pop_store rfl rfl rfl qst ?_ | fail)) | refine pnil ?_ | refine kround_exit ?_ | refine kround_ret ?_ | refine kround_next ?_ | refine kseq_normal ?_ | refine pseq ?_ | refine pregion ?_ | refine pret ?_ | refine kseq_ret ?_ | refine pskip ?_ | refine pblock ?_ | refine pexit ?_ | refine kseq_exit ?_ | refine kblock_hit rfl ?_ | refine kblock_miss rfl ?_ | refine kblock_ret ?_ | refine kblock_normal ?_ | refine kloop_ret ?_ | refine kloop_exit ?_ | refine kcut_ret ?_ | refine kcut_exit ?_ | refine pcond_t rfl ?_ | refine pcond_f rfl ?_ | (with_reducible (show POps _ _ _ _ _ _ _); simp only [List.append_eq, List.cons_append, List.nil_append]))
  refine pcan (can_sel [0, 1]) ?_
  refine ploop (fun n st => ∃ p q : Nat, Nat.gcd p q = Nat.gcd a b ∧ p < 18446744073709551616 ∧ q < 18446744073709551616 ∧ q = n ∧ st = ⟨[(0, vu p), (1, vu q)], []⟩) b ⟨a, b, rfl, ha, hb, rfl, rfl⟩ ?_
  rintro _ _ ⟨p, q, hg, hp, hq, rfl, rfl⟩
  repeat' (first | ((with_reducible (show POps _ _ _ _ (_ :: _) _ _)); (first | refine pop_read rfl rfl rfl rfl trivial ?_ | refine pop_guard rfl rfl rfl rfl rfl qgd ?_ | refine pop_new rfl rfl rfl rfl trivial ?_ | refine pop_store rfl rfl rfl Nat.zero_lt_one ?_ | refine pop_read rfl rfl rfl rfl qrd ?_ | refine pop_read2 rfl rfl rfl rfl trivial ?_ | refine pop_store rfl rfl rfl qst ?_ | fail)) | refine pnil ?_ | refine kround_exit ?_ | refine kround_ret ?_ | refine kround_next ?_ | refine kseq_normal ?_ | refine pseq ?_ | refine pregion ?_ | refine pret ?_ | refine kseq_ret ?_ | refine pskip ?_ | refine pblock ?_ | refine pexit ?_ | refine kseq_exit ?_ | refine kblock_hit rfl ?_ | refine kblock_miss rfl ?_ | refine kblock_ret ?_ | refine kblock_normal ?_ | refine kloop_ret ?_ | refine kloop_exit ?_ | refine kcut_ret ?_ | refine kcut_exit ?_ | refine pcond_t rfl ?_ | refine pcond_f rfl ?_ | (with_reducible (show POps _ _ _ _ _ _ _); simp only [List.append_eq, List.cons_append, List.nil_append]))
  refine pcond rfl ?_ ?_ <;> intro hc
  · have hq0 : (q : Int) ≠ 0 := by simpa using hc
    repeat' (first | ((with_reducible (show POps _ _ _ _ (_ :: _) _ _)); (first | refine pop_read rfl rfl rfl rfl trivial ?_ | refine pop_guard rfl rfl rfl rfl rfl qgd ?_ | refine pop_new rfl rfl rfl rfl trivial ?_ | refine pop_store rfl rfl rfl Nat.zero_lt_one ?_ | refine pop_read rfl rfl rfl rfl qrd ?_ | refine pop_read2 rfl rfl rfl rfl trivial ?_ | refine pop_store rfl rfl rfl qst ?_ | fail)) | refine pnil ?_ | refine kround_exit ?_ | refine kround_ret ?_ | refine kround_next ?_ | refine kseq_normal ?_ | refine pseq ?_ | refine pregion ?_ | refine pret ?_ | refine kseq_ret ?_ | refine pskip ?_ | refine pblock ?_ | refine pexit ?_ | refine kseq_exit ?_ | refine kblock_hit rfl ?_ | refine kblock_miss rfl ?_ | refine kblock_ret ?_ | refine kblock_normal ?_ | refine kloop_ret ?_ | refine kloop_exit ?_ | refine kcut_ret ?_ | refine kcut_exit ?_ | refine pcond_t rfl ?_ | refine pcond_f rfl ?_ | (with_reducible (show POps _ _ _ _ _ _ _); simp only [List.append_eq, List.cons_append, List.nil_append]))
    (refine any_start [] 6 rfl ?_); (first | refine aT 0 ?_ | refine aT2 0 ?_ | (refine aC 0 ?_ ?_; rotate_left)); (first | refine aT 1 ?_ | refine aT2 1 ?_ | (refine aC 1 ?_ ?_; rotate_left)); (first | refine aT 2 ?_ | refine aT2 2 ?_ | (refine aC 2 ?_ ?_; rotate_left)); (first | refine aT 3 ?_ | refine aT2 3 ?_ | (refine aC 3 ?_ ?_; rotate_left)); (first | refine aT 4 ?_ | refine aT2 4 ?_ | (refine aC 4 ?_ ?_; rotate_left)); (first | refine aT 5 ?_ | refine aT2 5 ?_ | (refine aC 5 ?_ ?_; rotate_left)); (refine any_done (by kernel_rfl) ?_)
    repeat' (first | ((with_reducible (show POps _ _ _ _ (_ :: _) _ _)); (first | refine pop_read rfl rfl rfl rfl trivial ?_ | refine pop_guard rfl rfl rfl rfl rfl qgd ?_ | refine pop_new rfl rfl rfl rfl trivial ?_ | refine pop_store rfl rfl rfl Nat.zero_lt_one ?_ | refine pop_read rfl rfl rfl rfl qrd ?_ | refine pop_read2 rfl rfl rfl rfl trivial ?_ | refine pop_store rfl rfl rfl qst ?_ | fail)) | refine pnil ?_ | refine kround_exit ?_ | refine kround_ret ?_ | refine kround_next ?_ | refine kseq_normal ?_ | refine pseq ?_ | refine pregion ?_ | refine pret ?_ | refine kseq_ret ?_ | refine pskip ?_ | refine pblock ?_ | refine pexit ?_ | refine kseq_exit ?_ | refine kblock_hit rfl ?_ | refine kblock_miss rfl ?_ | refine kblock_ret ?_ | refine kblock_normal ?_ | refine kloop_ret ?_ | refine kloop_exit ?_ | refine kcut_ret ?_ | refine kcut_exit ?_ | refine pcond_t rfl ?_ | refine pcond_f rfl ?_ | (with_reducible (show POps _ _ _ _ _ _ _); simp only [List.append_eq, List.cons_append, List.nil_append]))
    have hlt : p % q < q := Nat.mod_lt _ (by omega)
    exact kloop_next (p % q) (can_sel [0, 1]) hlt ⟨q, p % q, (gcd_step p q).trans hg, hq, by omega, rfl, rfl⟩
  · have hq0 : q = 0 := by simpa using hc
    subst hq0
    repeat' (first | ((with_reducible (show POps _ _ _ _ (_ :: _) _ _)); (first | refine pop_read rfl rfl rfl rfl trivial ?_ | refine pop_guard rfl rfl rfl rfl rfl qgd ?_ | refine pop_new rfl rfl rfl rfl trivial ?_ | refine pop_store rfl rfl rfl Nat.zero_lt_one ?_ | refine pop_read rfl rfl rfl rfl qrd ?_ | refine pop_read2 rfl rfl rfl rfl trivial ?_ | refine pop_store rfl rfl rfl qst ?_ | fail)) | refine pnil ?_ | refine kround_exit ?_ | refine kround_ret ?_ | refine kround_next ?_ | refine kseq_normal ?_ | refine pseq ?_ | refine pregion ?_ | refine pret ?_ | refine kseq_ret ?_ | refine pskip ?_ | refine pblock ?_ | refine pexit ?_ | refine kseq_exit ?_ | refine kblock_hit rfl ?_ | refine kblock_miss rfl ?_ | refine kblock_ret ?_ | refine kblock_normal ?_ | refine kloop_ret ?_ | refine kloop_exit ?_ | refine kcut_ret ?_ | refine kcut_exit ?_ | refine pcond_t rfl ?_ | refine pcond_f rfl ?_ | (with_reducible (show POps _ _ _ _ _ _ _); simp only [List.append_eq, List.cons_append, List.nil_append]))
    exact kretv rfl ⟨trivial, trivial⟩ rfl (eqI (by rw [← hg]; simp))
theorem gcdI_c (a b : Int) (ha0 : 0 ≤ a) (ha : a < 18446744073709551616) (hb0 : 0 ≤ b) (hb : b < 18446744073709551616) : PureC G.P 84 [vu a, vu b] (fun r => r = vu (Int.gcd a b)) := by
  obtain ⟨a, rfl⟩ := Int.eq_ofNat_of_zero_le ha0
  obtain ⟨b, rfl⟩ := Int.eq_ofNat_of_zero_le hb0
  exact gcd_c a b (by omega) (by omega)
theorem magnitude_c (n : Int) (h1 : -9223372036854775808 ≤ n) (h2 : n ≤ 9223372036854775807) : PureC G.P 85 [vi n] (fun r => r = vu n.natAbs) := by
  refine pure_of (G := G.toPg) (fn := Tryz.f85) Tryz.func85 rfl rfl rfl ?_; intro Γ hk
  repeat' (first | ((with_reducible (show POps _ _ _ _ (_ :: _) _ _)); (first | refine pop_read rfl rfl rfl rfl trivial ?_ | refine pop_guard rfl rfl rfl rfl rfl qgd ?_ | refine pop_new rfl rfl rfl rfl trivial ?_ | refine pop_store rfl rfl rfl Nat.zero_lt_one ?_ | refine pop_read rfl rfl rfl rfl qrd ?_ | refine pop_read2 rfl rfl rfl rfl trivial ?_ | refine pop_store rfl rfl rfl qst ?_ | fail)) | refine pnil ?_ | refine kround_exit ?_ | refine kround_ret ?_ | refine kround_next ?_ | refine kseq_normal ?_ | refine pseq ?_ | refine pregion ?_ | refine pret ?_ | refine kseq_ret ?_ | refine pskip ?_ | refine pblock ?_ | refine pexit ?_ | refine kseq_exit ?_ | refine kblock_hit rfl ?_ | refine kblock_miss rfl ?_ | refine kblock_ret ?_ | refine kblock_normal ?_ | refine kloop_ret ?_ | refine kloop_exit ?_ | refine kcut_ret ?_ | refine kcut_exit ?_ | refine pcond_t rfl ?_ | refine pcond_f rfl ?_ | (with_reducible (show POps _ _ _ _ _ _ _); simp only [List.append_eq, List.cons_append, List.nil_append]))
  refine pcond rfl ?_ ?_ <;> intro hc
  · have hc : n < 0 := by simpa using hc
    repeat' (first | ((with_reducible (show POps _ _ _ _ (_ :: _) _ _)); (first | refine pop_read rfl rfl rfl rfl trivial ?_ | refine pop_guard rfl rfl rfl rfl rfl qgd ?_ | refine pop_new rfl rfl rfl rfl trivial ?_ | refine pop_store rfl rfl rfl Nat.zero_lt_one ?_ | refine pop_read rfl rfl rfl rfl qrd ?_ | refine pop_read2 rfl rfl rfl rfl trivial ?_ | refine pop_store rfl rfl rfl qst ?_ | fail)) | refine pnil ?_ | refine kround_exit ?_ | refine kround_ret ?_ | refine kround_next ?_ | refine kseq_normal ?_ | refine pseq ?_ | refine pregion ?_ | refine pret ?_ | refine kseq_ret ?_ | refine pskip ?_ | refine pblock ?_ | refine pexit ?_ | refine kseq_exit ?_ | refine kblock_hit rfl ?_ | refine kblock_miss rfl ?_ | refine kblock_ret ?_ | refine kblock_normal ?_ | refine kloop_ret ?_ | refine kloop_exit ?_ | refine kcut_ret ?_ | refine kcut_exit ?_ | refine pcond_t rfl ?_ | refine pcond_f rfl ?_ | (with_reducible (show POps _ _ _ _ _ _ _); simp only [List.append_eq, List.cons_append, List.nil_append]))
    refine kretv rfl ⟨trivial, trivial⟩ rfl (eqI ?_)
    rw [wu64n hc (by omega), wu64n (by omega) (by omega)]; omega
  · have hc : 0 ≤ n := by simpa using hc
    repeat' (first | ((with_reducible (show POps _ _ _ _ (_ :: _) _ _)); (first | refine pop_read rfl rfl rfl rfl trivial ?_ | refine pop_guard rfl rfl rfl rfl rfl qgd ?_ | refine pop_new rfl rfl rfl rfl trivial ?_ | refine pop_store rfl rfl rfl Nat.zero_lt_one ?_ | refine pop_read rfl rfl rfl rfl qrd ?_ | refine pop_read2 rfl rfl rfl rfl trivial ?_ | refine pop_store rfl rfl rfl qst ?_ | fail)) | refine pnil ?_ | refine kround_exit ?_ | refine kround_ret ?_ | refine kround_next ?_ | refine kseq_normal ?_ | refine pseq ?_ | refine pregion ?_ | refine pret ?_ | refine kseq_ret ?_ | refine pskip ?_ | refine pblock ?_ | refine pexit ?_ | refine kseq_exit ?_ | refine kblock_hit rfl ?_ | refine kblock_miss rfl ?_ | refine kblock_ret ?_ | refine kblock_normal ?_ | refine kloop_ret ?_ | refine kloop_exit ?_ | refine kcut_ret ?_ | refine kcut_exit ?_ | refine pcond_t rfl ?_ | refine pcond_f rfl ?_ | (with_reducible (show POps _ _ _ _ _ _ _); simp only [List.append_eq, List.cons_append, List.nil_append]))
    refine kretv rfl ⟨trivial, trivial⟩ rfl (eqI ?_)
    rw [wu64 hc (by omega)]; omega
theorem ratioValid_c (n d : Int) (h1 : -9223372036854775808 ≤ n) (h2 : n ≤ 9223372036854775807) : PureC G.P 55 [vr n d] (fun r => r = vb (okR n d)) := by
  refine pure_of (G := G.toPg) (fn := Tryz.f55) Tryz.func55 rfl rfl rfl ?_; intro Γ hk
  repeat' (first | ((with_reducible (show POps _ _ _ _ (_ :: _) _ _)); (first | refine pop_read rfl rfl rfl rfl trivial ?_ | refine pop_guard rfl rfl rfl rfl rfl qgd ?_ | refine pop_new rfl rfl rfl rfl trivial ?_ | refine pop_store rfl rfl rfl Nat.zero_lt_one ?_ | refine pop_read rfl rfl rfl rfl qrd ?_ | refine pop_read2 rfl rfl rfl rfl trivial ?_ | refine pop_store rfl rfl rfl qst ?_ | fail)) | refine pnil ?_ | refine kround_exit ?_ | refine kround_ret ?_ | refine kround_next ?_ | refine kseq_normal ?_ | refine pseq ?_ | refine pregion ?_ | refine pret ?_ | refine kseq_ret ?_ | refine pskip ?_ | refine pblock ?_ | refine pexit ?_ | refine kseq_exit ?_ | refine kblock_hit rfl ?_ | refine kblock_miss rfl ?_ | refine kblock_ret ?_ | refine kblock_normal ?_ | refine kloop_ret ?_ | refine kloop_exit ?_ | refine kcut_ret ?_ | refine kcut_exit ?_ | refine pcond_t rfl ?_ | refine pcond_f rfl ?_ | (with_reducible (show POps _ _ _ _ _ _ _); simp only [List.append_eq, List.cons_append, List.nil_append]))
  refine pcond rfl ?_ ?_ <;> intro hc
  · repeat' (first | ((with_reducible (show POps _ _ _ _ (_ :: _) _ _)); (first | refine pop_read rfl rfl rfl rfl trivial ?_ | refine pop_guard rfl rfl rfl rfl rfl qgd ?_ | refine pop_new rfl rfl rfl rfl trivial ?_ | refine pop_store rfl rfl rfl Nat.zero_lt_one ?_ | refine pop_read rfl rfl rfl rfl qrd ?_ | refine pop_read2 rfl rfl rfl rfl trivial ?_ | refine pop_store rfl rfl rfl qst ?_ | fail)) | refine pnil ?_ | refine kround_exit ?_ | refine kround_ret ?_ | refine kround_next ?_ | refine kseq_normal ?_ | refine pseq ?_ | refine pregion ?_ | refine pret ?_ | refine kseq_ret ?_ | refine pskip ?_ | refine pblock ?_ | refine pexit ?_ | refine kseq_exit ?_ | refine kblock_hit rfl ?_ | refine kblock_miss rfl ?_ | refine kblock_ret ?_ | refine kblock_normal ?_ | refine kloop_ret ?_ | refine kloop_exit ?_ | refine kcut_ret ?_ | refine kcut_exit ?_ | refine pcond_t rfl ?_ | refine pcond_f rfl ?_ | (with_reducible (show POps _ _ _ _ _ _ _); simp only [List.append_eq, List.cons_append, List.nil_append]))
    refine kretv rfl ⟨trivial, trivial⟩ rfl (eqB ?_)
    simp at hc
    symm; simp only [okR, decide_eq_false_iff_not]; omega
  · simp at hc
    repeat' (first | ((with_reducible (show POps _ _ _ _ (_ :: _) _ _)); (first | refine pop_read rfl rfl rfl rfl trivial ?_ | refine pop_guard rfl rfl rfl rfl rfl qgd ?_ | refine pop_new rfl rfl rfl rfl trivial ?_ | refine pop_store rfl rfl rfl Nat.zero_lt_one ?_ | refine pop_read rfl rfl rfl rfl qrd ?_ | refine pop_read2 rfl rfl rfl rfl trivial ?_ | refine pop_store rfl rfl rfl qst ?_ | fail)) | refine pnil ?_ | refine kround_exit ?_ | refine kround_ret ?_ | refine kround_next ?_ | refine kseq_normal ?_ | refine pseq ?_ | refine pregion ?_ | refine pret ?_ | refine kseq_ret ?_ | refine pskip ?_ | refine pblock ?_ | refine pexit ?_ | refine kseq_exit ?_ | refine kblock_hit rfl ?_ | refine kblock_miss rfl ?_ | refine kblock_ret ?_ | refine kblock_normal ?_ | refine kloop_ret ?_ | refine kloop_exit ?_ | refine kcut_ret ?_ | refine kcut_exit ?_ | refine pcond_t rfl ?_ | refine pcond_f rfl ?_ | (with_reducible (show POps _ _ _ _ _ _ _); simp only [List.append_eq, List.cons_append, List.nil_append]))
    (refine any_start [0] 9 rfl ?_); (first | refine aT 0 ?_ | refine aT2 0 ?_ | (refine aC 0 ?_ ?_; rotate_left)); (first | refine aT 1 ?_ | refine aT2 1 ?_ | (refine aC 1 ?_ ?_; rotate_left)); (first | refine aT 3 ?_ | refine aT2 3 ?_ | (refine aC 3 ?_ ?_; rotate_left)); (first | refine aT 4 ?_ | refine aT2 4 ?_ | (refine aC 4 ?_ ?_; rotate_left)); (first | refine aT 5 ?_ | refine aT2 5 ?_ | (refine aC 5 ?_ ?_; rotate_left)); (refine aO 2 rfl (ch := [])  (pst_callv rfl rfl rfl rfl rfl (magnitude_c _ h1 h2) rfl rfl rfl ?_)); (refine aO 6 rfl (ch := [])  (pst_callv rfl rfl rfl rfl rfl (gcdI_c _ _ (by omega) (by omega) (by rw [wu64 (by omega) (by omega)]; omega) (by rw [wu64 (by omega) (by omega)]; omega)) rfl rfl rfl ?_)); (first | refine aT 7 ?_ | refine aT2 7 ?_ | (refine aC 7 ?_ ?_; rotate_left)); (first | refine aT 8 ?_ | refine aT2 8 ?_ | (refine aC 8 ?_ ?_; rotate_left)); (refine any_done (by kernel_rfl) ?_)
    repeat' (first | ((with_reducible (show POps _ _ _ _ (_ :: _) _ _)); (first | refine pop_read rfl rfl rfl rfl trivial ?_ | refine pop_guard rfl rfl rfl rfl rfl qgd ?_ | refine pop_new rfl rfl rfl rfl trivial ?_ | refine pop_store rfl rfl rfl Nat.zero_lt_one ?_ | refine pop_read rfl rfl rfl rfl qrd ?_ | refine pop_read2 rfl rfl rfl rfl trivial ?_ | refine pop_store rfl rfl rfl qst ?_ | fail)) | refine pnil ?_ | refine kround_exit ?_ | refine kround_ret ?_ | refine kround_next ?_ | refine kseq_normal ?_ | refine pseq ?_ | refine pregion ?_ | refine pret ?_ | refine kseq_ret ?_ | refine pskip ?_ | refine pblock ?_ | refine pexit ?_ | refine kseq_exit ?_ | refine kblock_hit rfl ?_ | refine kblock_miss rfl ?_ | refine kblock_ret ?_ | refine kblock_normal ?_ | refine kloop_ret ?_ | refine kloop_exit ?_ | refine kcut_ret ?_ | refine kcut_exit ?_ | refine pcond_t rfl ?_ | refine pcond_f rfl ?_ | (with_reducible (show POps _ _ _ _ _ _ _); simp only [List.append_eq, List.cons_append, List.nil_append]))
    refine kretv rfl ⟨trivial, trivial⟩ rfl (eqB ?_)
    rw [wu64 (by omega) (by omega), Bool.eq_iff_iff]
    have hg : Int.gcd (n.natAbs : Int) d = Int.gcd n d := by simp [Int.gcd]
    simp only [okR, hg]
    simp
    omega
theorem size_c (n : Int) (h1 : -9223372036854775808 ≤ n) (h2 : n ≤ 9223372036854775807) : PureC G.P 103 [vi n] (fun r => r = vu n.natAbs) := by
  refine pure_of (G := G.toPg) (fn := Tryz.f103) Tryz.func103 rfl rfl rfl ?_; intro Γ hk
  repeat' (first | ((with_reducible (show POps _ _ _ _ (_ :: _) _ _)); (first | refine pop_read rfl rfl rfl rfl trivial ?_ | refine pop_guard rfl rfl rfl rfl rfl qgd ?_ | refine pop_new rfl rfl rfl rfl trivial ?_ | refine pop_store rfl rfl rfl Nat.zero_lt_one ?_ | refine pop_read rfl rfl rfl rfl qrd ?_ | refine pop_read2 rfl rfl rfl rfl trivial ?_ | refine pop_store rfl rfl rfl qst ?_ | fail)) | refine pnil ?_ | refine kround_exit ?_ | refine kround_ret ?_ | refine kround_next ?_ | refine kseq_normal ?_ | refine pseq ?_ | refine pregion ?_ | refine pret ?_ | refine kseq_ret ?_ | refine pskip ?_ | refine pblock ?_ | refine pexit ?_ | refine kseq_exit ?_ | refine kblock_hit rfl ?_ | refine kblock_miss rfl ?_ | refine kblock_ret ?_ | refine kblock_normal ?_ | refine kloop_ret ?_ | refine kloop_exit ?_ | refine kcut_ret ?_ | refine kcut_exit ?_ | refine pcond_t rfl ?_ | refine pcond_f rfl ?_ | (with_reducible (show POps _ _ _ _ _ _ _); simp only [List.append_eq, List.cons_append, List.nil_append]))
  refine pcond rfl ?_ ?_ <;> intro hc
  · have hc : n < 0 := by simpa using hc
    repeat' (first | ((with_reducible (show POps _ _ _ _ (_ :: _) _ _)); (first | refine pop_read rfl rfl rfl rfl trivial ?_ | refine pop_guard rfl rfl rfl rfl rfl qgd ?_ | refine pop_new rfl rfl rfl rfl trivial ?_ | refine pop_store rfl rfl rfl Nat.zero_lt_one ?_ | refine pop_read rfl rfl rfl rfl qrd ?_ | refine pop_read2 rfl rfl rfl rfl trivial ?_ | refine pop_store rfl rfl rfl qst ?_ | fail)) | refine pnil ?_ | refine kround_exit ?_ | refine kround_ret ?_ | refine kround_next ?_ | refine kseq_normal ?_ | refine pseq ?_ | refine pregion ?_ | refine pret ?_ | refine kseq_ret ?_ | refine pskip ?_ | refine pblock ?_ | refine pexit ?_ | refine kseq_exit ?_ | refine kblock_hit rfl ?_ | refine kblock_miss rfl ?_ | refine kblock_ret ?_ | refine kblock_normal ?_ | refine kloop_ret ?_ | refine kloop_exit ?_ | refine kcut_ret ?_ | refine kcut_exit ?_ | refine pcond_t rfl ?_ | refine pcond_f rfl ?_ | (with_reducible (show POps _ _ _ _ _ _ _); simp only [List.append_eq, List.cons_append, List.nil_append]))
    refine kretv rfl ⟨trivial, trivial⟩ rfl (eqI ?_)
    rw [w64 (n := n + 1) (by omega) (by omega), w64 (by omega) (by omega), wu64 (n := 0 - (n + 1)) (by omega) (by omega), wu64 (by omega) (by omega)]; omega
  · have hc : 0 ≤ n := by simpa using hc
    repeat' (first | ((with_reducible (show POps _ _ _ _ (_ :: _) _ _)); (first | refine pop_read rfl rfl rfl rfl trivial ?_ | refine pop_guard rfl rfl rfl rfl rfl qgd ?_ | refine pop_new rfl rfl rfl rfl trivial ?_ | refine pop_store rfl rfl rfl Nat.zero_lt_one ?_ | refine pop_read rfl rfl rfl rfl qrd ?_ | refine pop_read2 rfl rfl rfl rfl trivial ?_ | refine pop_store rfl rfl rfl qst ?_ | fail)) | refine pnil ?_ | refine kround_exit ?_ | refine kround_ret ?_ | refine kround_next ?_ | refine kseq_normal ?_ | refine pseq ?_ | refine pregion ?_ | refine pret ?_ | refine kseq_ret ?_ | refine pskip ?_ | refine pblock ?_ | refine pexit ?_ | refine kseq_exit ?_ | refine kblock_hit rfl ?_ | refine kblock_miss rfl ?_ | refine kblock_ret ?_ | refine kblock_normal ?_ | refine kloop_ret ?_ | refine kloop_exit ?_ | refine kcut_ret ?_ | refine kcut_exit ?_ | refine pcond_t rfl ?_ | refine pcond_f rfl ?_ | (with_reducible (show POps _ _ _ _ _ _ _); simp only [List.append_eq, List.cons_append, List.nil_append]))
    refine kretv rfl ⟨trivial, trivial⟩ rfl (eqI ?_)
    rw [wu64 hc (by omega)]; omega
theorem common_c (a b : Nat) (ha : a < 18446744073709551616) (hb : b < 18446744073709551616) : PureC G.P 102 [vu a, vu b] (fun r => r = vu (Nat.gcd a b)) := by
  refine pure_of (G := G.toPg) (fn := Tryz.f102) Tryz.func102 rfl rfl rfl ?_; intro Γ hk
  repeat' (first | ((with_reducible (show POps _ _ _ _ (_ :: _) _ _)); (first | refine pop_read rfl rfl rfl rfl trivial ?_ | refine pop_guard rfl rfl rfl rfl rfl qgd ?_ | refine pop_new rfl rfl rfl rfl trivial ?_ | refine pop_store rfl rfl rfl Nat.zero_lt_one ?_ | refine pop_read rfl rfl rfl rfl qrd ?_ | refine pop_read2 rfl rfl rfl rfl trivial ?_ | refine pop_store rfl rfl rfl qst ?_ | fail)) | refine pnil ?_ | refine kround_exit ?_ | refine kround_ret ?_ | refine kround_next ?_ | refine kseq_normal ?_ | refine pseq ?_ | refine pregion ?_ | refine pret ?_ | refine kseq_ret ?_ | refine pskip ?_ | refine pblock ?_ | refine pexit ?_ | refine kseq_exit ?_ | refine kblock_hit rfl ?_ | refine kblock_miss rfl ?_ | refine kblock_ret ?_ | refine kblock_normal ?_ | refine kloop_ret ?_ | refine kloop_exit ?_ | refine kcut_ret ?_ | refine kcut_exit ?_ | refine pcond_t rfl ?_ | refine pcond_f rfl ?_ | (with_reducible (show POps _ _ _ _ _ _ _); simp only [List.append_eq, List.cons_append, List.nil_append]))
  refine pcan (can_sel [0, 1]) ?_
  refine ploop (fun n st => ∃ p q : Nat, Nat.gcd p q = Nat.gcd a b ∧ p < 18446744073709551616 ∧ q < 18446744073709551616 ∧ q = n ∧ st = ⟨[(0, vu p), (1, vu q)], []⟩) b ⟨a, b, rfl, ha, hb, rfl, rfl⟩ ?_
  rintro _ _ ⟨p, q, hg, hp, hq, rfl, rfl⟩
  repeat' (first | ((with_reducible (show POps _ _ _ _ (_ :: _) _ _)); (first | refine pop_read rfl rfl rfl rfl trivial ?_ | refine pop_guard rfl rfl rfl rfl rfl qgd ?_ | refine pop_new rfl rfl rfl rfl trivial ?_ | refine pop_store rfl rfl rfl Nat.zero_lt_one ?_ | refine pop_read rfl rfl rfl rfl qrd ?_ | refine pop_read2 rfl rfl rfl rfl trivial ?_ | refine pop_store rfl rfl rfl qst ?_ | fail)) | refine pnil ?_ | refine kround_exit ?_ | refine kround_ret ?_ | refine kround_next ?_ | refine kseq_normal ?_ | refine pseq ?_ | refine pregion ?_ | refine pret ?_ | refine kseq_ret ?_ | refine pskip ?_ | refine pblock ?_ | refine pexit ?_ | refine kseq_exit ?_ | refine kblock_hit rfl ?_ | refine kblock_miss rfl ?_ | refine kblock_ret ?_ | refine kblock_normal ?_ | refine kloop_ret ?_ | refine kloop_exit ?_ | refine kcut_ret ?_ | refine kcut_exit ?_ | refine pcond_t rfl ?_ | refine pcond_f rfl ?_ | (with_reducible (show POps _ _ _ _ _ _ _); simp only [List.append_eq, List.cons_append, List.nil_append]))
  refine pcond rfl ?_ ?_ <;> intro hc
  · have hq0 : (q : Int) ≠ 0 := by simpa using hc
    repeat' (first | ((with_reducible (show POps _ _ _ _ (_ :: _) _ _)); (first | refine pop_read rfl rfl rfl rfl trivial ?_ | refine pop_guard rfl rfl rfl rfl rfl qgd ?_ | refine pop_new rfl rfl rfl rfl trivial ?_ | refine pop_store rfl rfl rfl Nat.zero_lt_one ?_ | refine pop_read rfl rfl rfl rfl qrd ?_ | refine pop_read2 rfl rfl rfl rfl trivial ?_ | refine pop_store rfl rfl rfl qst ?_ | fail)) | refine pnil ?_ | refine kround_exit ?_ | refine kround_ret ?_ | refine kround_next ?_ | refine kseq_normal ?_ | refine pseq ?_ | refine pregion ?_ | refine pret ?_ | refine kseq_ret ?_ | refine pskip ?_ | refine pblock ?_ | refine pexit ?_ | refine kseq_exit ?_ | refine kblock_hit rfl ?_ | refine kblock_miss rfl ?_ | refine kblock_ret ?_ | refine kblock_normal ?_ | refine kloop_ret ?_ | refine kloop_exit ?_ | refine kcut_ret ?_ | refine kcut_exit ?_ | refine pcond_t rfl ?_ | refine pcond_f rfl ?_ | (with_reducible (show POps _ _ _ _ _ _ _); simp only [List.append_eq, List.cons_append, List.nil_append]))
    (refine any_start [] 6 rfl ?_); (first | refine aT 0 ?_ | refine aT2 0 ?_ | (refine aC 0 ?_ ?_; rotate_left)); (first | refine aT 1 ?_ | refine aT2 1 ?_ | (refine aC 1 ?_ ?_; rotate_left)); (first | refine aT 2 ?_ | refine aT2 2 ?_ | (refine aC 2 ?_ ?_; rotate_left)); (first | refine aT 3 ?_ | refine aT2 3 ?_ | (refine aC 3 ?_ ?_; rotate_left)); (first | refine aT 4 ?_ | refine aT2 4 ?_ | (refine aC 4 ?_ ?_; rotate_left)); (first | refine aT 5 ?_ | refine aT2 5 ?_ | (refine aC 5 ?_ ?_; rotate_left)); (refine any_done (by kernel_rfl) ?_)
    repeat' (first | ((with_reducible (show POps _ _ _ _ (_ :: _) _ _)); (first | refine pop_read rfl rfl rfl rfl trivial ?_ | refine pop_guard rfl rfl rfl rfl rfl qgd ?_ | refine pop_new rfl rfl rfl rfl trivial ?_ | refine pop_store rfl rfl rfl Nat.zero_lt_one ?_ | refine pop_read rfl rfl rfl rfl qrd ?_ | refine pop_read2 rfl rfl rfl rfl trivial ?_ | refine pop_store rfl rfl rfl qst ?_ | fail)) | refine pnil ?_ | refine kround_exit ?_ | refine kround_ret ?_ | refine kround_next ?_ | refine kseq_normal ?_ | refine pseq ?_ | refine pregion ?_ | refine pret ?_ | refine kseq_ret ?_ | refine pskip ?_ | refine pblock ?_ | refine pexit ?_ | refine kseq_exit ?_ | refine kblock_hit rfl ?_ | refine kblock_miss rfl ?_ | refine kblock_ret ?_ | refine kblock_normal ?_ | refine kloop_ret ?_ | refine kloop_exit ?_ | refine kcut_ret ?_ | refine kcut_exit ?_ | refine pcond_t rfl ?_ | refine pcond_f rfl ?_ | (with_reducible (show POps _ _ _ _ _ _ _); simp only [List.append_eq, List.cons_append, List.nil_append]))
    have hlt : p % q < q := Nat.mod_lt _ (by omega)
    exact kloop_next (p % q) (can_sel [0, 1]) hlt ⟨q, p % q, (gcd_step p q).trans hg, hq, by omega, rfl, rfl⟩
  · have hq0 : q = 0 := by simpa using hc
    subst hq0
    repeat' (first | ((with_reducible (show POps _ _ _ _ (_ :: _) _ _)); (first | refine pop_read rfl rfl rfl rfl trivial ?_ | refine pop_guard rfl rfl rfl rfl rfl qgd ?_ | refine pop_new rfl rfl rfl rfl trivial ?_ | refine pop_store rfl rfl rfl Nat.zero_lt_one ?_ | refine pop_read rfl rfl rfl rfl qrd ?_ | refine pop_read2 rfl rfl rfl rfl trivial ?_ | refine pop_store rfl rfl rfl qst ?_ | fail)) | refine pnil ?_ | refine kround_exit ?_ | refine kround_ret ?_ | refine kround_next ?_ | refine kseq_normal ?_ | refine pseq ?_ | refine pregion ?_ | refine pret ?_ | refine kseq_ret ?_ | refine pskip ?_ | refine pblock ?_ | refine pexit ?_ | refine kseq_exit ?_ | refine kblock_hit rfl ?_ | refine kblock_miss rfl ?_ | refine kblock_ret ?_ | refine kblock_normal ?_ | refine kloop_ret ?_ | refine kloop_exit ?_ | refine kcut_ret ?_ | refine kcut_exit ?_ | refine pcond_t rfl ?_ | refine pcond_f rfl ?_ | (with_reducible (show POps _ _ _ _ _ _ _); simp only [List.append_eq, List.cons_append, List.nil_append]))
    exact kretv rfl ⟨trivial, trivial⟩ rfl (eqI (by rw [← hg]; simp))
theorem commonI_c (a b : Int) (ha0 : 0 ≤ a) (ha : a < 18446744073709551616) (hb0 : 0 ≤ b) (hb : b < 18446744073709551616) : PureC G.P 102 [vu a, vu b] (fun r => r = vu (Int.gcd a b)) := by
  obtain ⟨a, rfl⟩ := Int.eq_ofNat_of_zero_le ha0
  obtain ⟨b, rfl⟩ := Int.eq_ofNat_of_zero_le hb0
  exact common_c a b (by omega) (by omega)
theorem ref1Valid_c (n d : Int) (h1 : -9223372036854775808 ≤ n) (h2 : n ≤ 9223372036854775807) : PureC G.P 71 [vr n d] (fun r => r = vb (okR n d)) := by
  refine pure_of (G := G.toPg) (fn := Tryz.f71) Tryz.func71 rfl rfl rfl ?_; intro Γ hk
  repeat' (first | ((with_reducible (show POps _ _ _ _ (_ :: _) _ _)); (first | refine pop_read rfl rfl rfl rfl trivial ?_ | refine pop_guard rfl rfl rfl rfl rfl qgd ?_ | refine pop_new rfl rfl rfl rfl trivial ?_ | refine pop_store rfl rfl rfl Nat.zero_lt_one ?_ | refine pop_read rfl rfl rfl rfl qrd ?_ | refine pop_read2 rfl rfl rfl rfl trivial ?_ | refine pop_store rfl rfl rfl qst ?_ | fail)) | refine pnil ?_ | refine kround_exit ?_ | refine kround_ret ?_ | refine kround_next ?_ | refine kseq_normal ?_ | refine pseq ?_ | refine pregion ?_ | refine pret ?_ | refine kseq_ret ?_ | refine pskip ?_ | refine pblock ?_ | refine pexit ?_ | refine kseq_exit ?_ | refine kblock_hit rfl ?_ | refine kblock_miss rfl ?_ | refine kblock_ret ?_ | refine kblock_normal ?_ | refine kloop_ret ?_ | refine kloop_exit ?_ | refine kcut_ret ?_ | refine kcut_exit ?_ | refine pcond_t rfl ?_ | refine pcond_f rfl ?_ | (with_reducible (show POps _ _ _ _ _ _ _); simp only [List.append_eq, List.cons_append, List.nil_append]))
  (refine any_start [0] 29 rfl ?_); (first | refine aT 0 ?_ | refine aT2 0 ?_ | (refine aC 0 ?_ ?_; rotate_left)); (first | refine aT 1 ?_ | refine aT2 1 ?_ | (refine aC 1 ?_ ?_; rotate_left)); (first | refine aT 2 ?_ | refine aT2 2 ?_ | (refine aC 2 ?_ ?_; rotate_left)); (first | refine aT 3 ?_ | refine aT2 3 ?_ | (refine aC 3 ?_ ?_; rotate_left)); (first | refine any_takeg 4 rfl (by kernel_rfl) (by kernel_rfl) (by kernel_rfl) rfl rfl rfl rfl rfl rfl qtg ?_ | (refine any_takeg 4 rfl (by kernel_rfl) (by kernel_rfl) (by kernel_rfl) rfl rfl rfl rfl rfl rfl (fun h => ?_) ?_; rotate_left)); (first | refine any_takeg 5 rfl (by kernel_rfl) (by kernel_rfl) (by kernel_rfl) rfl rfl rfl rfl rfl rfl qtg ?_ | (refine any_takeg 5 rfl (by kernel_rfl) (by kernel_rfl) (by kernel_rfl) rfl rfl rfl rfl rfl rfl (fun h => ?_) ?_; rotate_left)); (first | refine any_takeg 6 rfl (by kernel_rfl) (by kernel_rfl) (by kernel_rfl) rfl rfl rfl rfl rfl rfl qtg ?_ | (refine any_takeg 6 rfl (by kernel_rfl) (by kernel_rfl) (by kernel_rfl) rfl rfl rfl rfl rfl rfl (fun h => ?_) ?_; rotate_left)); (first | refine aT 7 ?_ | refine aT2 7 ?_ | (refine aC 7 ?_ ?_; rotate_left)); (first | refine aT 8 ?_ | refine aT2 8 ?_ | (refine aC 8 ?_ ?_; rotate_left)); (first | refine any_takeg 9 rfl (by kernel_rfl) (by kernel_rfl) (by kernel_rfl) rfl rfl rfl rfl rfl rfl qtg ?_ | (refine any_takeg 9 rfl (by kernel_rfl) (by kernel_rfl) (by kernel_rfl) rfl rfl rfl rfl rfl rfl (fun h => ?_) ?_; rotate_left)); (first | refine any_takeg 10 rfl (by kernel_rfl) (by kernel_rfl) (by kernel_rfl) rfl rfl rfl rfl rfl rfl qtg ?_ | (refine any_takeg 10 rfl (by kernel_rfl) (by kernel_rfl) (by kernel_rfl) rfl rfl rfl rfl rfl rfl (fun h => ?_) ?_; rotate_left)); (first | refine any_takeg 11 rfl (by kernel_rfl) (by kernel_rfl) (by kernel_rfl) rfl rfl rfl rfl rfl rfl qtg ?_ | (refine any_takeg 11 rfl (by kernel_rfl) (by kernel_rfl) (by kernel_rfl) rfl rfl rfl rfl rfl rfl (fun h => ?_) ?_; rotate_left)); (first | refine aT 12 ?_ | refine aT2 12 ?_ | (refine aC 12 ?_ ?_; rotate_left)); (first | refine aT 13 ?_ | refine aT2 13 ?_ | (refine aC 13 ?_ ?_; rotate_left)); (first | refine any_takeg 14 rfl (by kernel_rfl) (by kernel_rfl) (by kernel_rfl) rfl rfl rfl rfl rfl rfl qtg ?_ | (refine any_takeg 14 rfl (by kernel_rfl) (by kernel_rfl) (by kernel_rfl) rfl rfl rfl rfl rfl rfl (fun h => ?_) ?_; rotate_left)); (first | refine any_takeg 15 rfl (by kernel_rfl) (by kernel_rfl) (by kernel_rfl) rfl rfl rfl rfl rfl rfl qtg ?_ | (refine any_takeg 15 rfl (by kernel_rfl) (by kernel_rfl) (by kernel_rfl) rfl rfl rfl rfl rfl rfl (fun h => ?_) ?_; rotate_left)); (first | refine any_takeg 16 rfl (by kernel_rfl) (by kernel_rfl) (by kernel_rfl) rfl rfl rfl rfl rfl rfl qtg ?_ | (refine any_takeg 16 rfl (by kernel_rfl) (by kernel_rfl) (by kernel_rfl) rfl rfl rfl rfl rfl rfl (fun h => ?_) ?_; rotate_left)); (first | refine aT 17 ?_ | refine aT2 17 ?_ | (refine aC 17 ?_ ?_; rotate_left)); (first | refine aT 18 ?_ | refine aT2 18 ?_ | (refine aC 18 ?_ ?_; rotate_left)); (first | refine any_takeg 19 rfl (by kernel_rfl) (by kernel_rfl) (by kernel_rfl) rfl rfl rfl rfl rfl rfl qtg ?_ | (refine any_takeg 19 rfl (by kernel_rfl) (by kernel_rfl) (by kernel_rfl) rfl rfl rfl rfl rfl rfl (fun h => ?_) ?_; rotate_left)); (first | refine any_takeg 20 rfl (by kernel_rfl) (by kernel_rfl) (by kernel_rfl) rfl rfl rfl rfl rfl rfl qtg ?_ | (refine any_takeg 20 rfl (by kernel_rfl) (by kernel_rfl) (by kernel_rfl) rfl rfl rfl rfl rfl rfl (fun h => ?_) ?_; rotate_left)); (first | refine any_takeg 22 rfl (by kernel_rfl) (by kernel_rfl) (by kernel_rfl) rfl rfl rfl rfl rfl rfl qtg ?_ | (refine any_takeg 22 rfl (by kernel_rfl) (by kernel_rfl) (by kernel_rfl) rfl rfl rfl rfl rfl rfl (fun h => ?_) ?_; rotate_left)); (first | refine any_takeg 23 rfl (by kernel_rfl) (by kernel_rfl) (by kernel_rfl) rfl rfl rfl rfl rfl rfl qtg ?_ | (refine any_takeg 23 rfl (by kernel_rfl) (by kernel_rfl) (by kernel_rfl) rfl rfl rfl rfl rfl rfl (fun h => ?_) ?_; rotate_left)); (refine aO 21 rfl (ch := [])  (pst_callgv rfl rfl rfl rfl rfl rfl (fun _ => size_c _ h1 h2) (fun h => ⟨h, trivial⟩) rfl rfl rfl ?_)); (refine aO 24 rfl (ch := [])  (pst_callgv rfl rfl rfl rfl rfl rfl (fun h => size_c _ (by simp at h; omega) (by simp at h; omega)) (fun h => ⟨h, trivial⟩) rfl rfl rfl ?_)); (refine aO 25 rfl (ch := [])  (pst_callgv rfl rfl rfl rfl rfl rfl (fun h => commonI_c _ _ (by omega) (by omega) (by omega) (by simp at h; omega)) (fun h => ⟨h, h, trivial⟩) rfl rfl rfl ?_)); (first | refine any_takeg 26 rfl (by kernel_rfl) (by kernel_rfl) (by kernel_rfl) rfl rfl rfl rfl rfl rfl qtg ?_ | (refine any_takeg 26 rfl (by kernel_rfl) (by kernel_rfl) (by kernel_rfl) rfl rfl rfl rfl rfl rfl (fun h => ?_) ?_; rotate_left)); (first | refine aT 27 ?_ | refine aT2 27 ?_ | (refine aC 27 ?_ ?_; rotate_left)); (first | refine aT 28 ?_ | refine aT2 28 ?_ | (refine aC 28 ?_ ?_; rotate_left)); (refine any_done (by kernel_rfl) ?_)
  repeat' (first | ((with_reducible (show POps _ _ _ _ (_ :: _) _ _)); (first | refine pop_read rfl rfl rfl rfl trivial ?_ | refine pop_guard rfl rfl rfl rfl rfl qgd ?_ | refine pop_new rfl rfl rfl rfl trivial ?_ | refine pop_store rfl rfl rfl Nat.zero_lt_one ?_ | refine pop_read rfl rfl rfl rfl qrd ?_ | refine pop_read2 rfl rfl rfl rfl trivial ?_ | refine pop_store rfl rfl rfl qst ?_ | fail)) | refine pnil ?_ | refine kround_exit ?_ | refine kround_ret ?_ | refine kround_next ?_ | refine kseq_normal ?_ | refine pseq ?_ | refine pregion ?_ | refine pret ?_ | refine kseq_ret ?_ | refine pskip ?_ | refine pblock ?_ | refine pexit ?_ | refine kseq_exit ?_ | refine kblock_hit rfl ?_ | refine kblock_miss rfl ?_ | refine kblock_ret ?_ | refine kblock_normal ?_ | refine kloop_ret ?_ | refine kloop_exit ?_ | refine kcut_ret ?_ | refine kcut_exit ?_ | refine pcond_t rfl ?_ | refine pcond_f rfl ?_ | (with_reducible (show POps _ _ _ _ _ _ _); simp only [List.append_eq, List.cons_append, List.nil_append]))
  refine kretv rfl ⟨trivial, trivial⟩ rfl (eqB ?_)
  rw [Bool.eq_iff_iff]
  have hg : Int.gcd (n.natAbs : Int) (d.natAbs : Int) = Int.gcd n d := by simp [Int.gcd]
  rw [hg]
  simp [okR]
  omega
end Go.Proofs.YtdifpajpheemaaaGreatDoor
namespace Go.Proofs.YtdifpajpheemaaaGreatDoor
def byteI (s : ByteArray) (i : Nat) : Int := ((s.data.getD i 0).toNat : Int)
def lowB (c : Int) : Bool := decide (97 ≤ c ∧ c ≤ 122)
def digB (c : Int) : Bool := decide (48 ≤ c ∧ c ≤ 57)
def wrdB (c : Int) : Bool := lowB c || digB c || c == 95
abbrev vy (c : Int) : PV := .val (.int .u8 c)
theorem isLower_c (c : Int) : PureC G.P 120 [vy c] (fun r => r = vb (lowB c)) := by
  refine pure_of (G := G.toPg) (fn := Tryz.f120) Tryz.func120 rfl rfl rfl ?_; intro Γ hk
  repeat' (first | ((with_reducible (show POps _ _ _ _ (_ :: _) _ _)); (first | refine pop_read rfl rfl rfl rfl trivial ?_ | refine pop_guard rfl rfl rfl rfl rfl qgd ?_ | refine pop_new rfl rfl rfl rfl trivial ?_ | refine pop_store rfl rfl rfl Nat.zero_lt_one ?_ | refine pop_read rfl rfl rfl rfl qrd ?_ | refine pop_read2 rfl rfl rfl rfl trivial ?_ | refine pop_store rfl rfl rfl qst ?_ | fail)) | refine pnil ?_ | refine kround_exit ?_ | refine kround_ret ?_ | refine kround_next ?_ | refine kseq_normal ?_ | refine pseq ?_ | refine pregion ?_ | refine pret ?_ | refine kseq_ret ?_ | refine pskip ?_ | refine pblock ?_ | refine pexit ?_ | refine kseq_exit ?_ | refine kblock_hit rfl ?_ | refine kblock_miss rfl ?_ | refine kblock_ret ?_ | refine kblock_normal ?_ | refine kloop_ret ?_ | refine kloop_exit ?_ | refine kcut_ret ?_ | refine kcut_exit ?_ | refine pcond_t rfl ?_ | refine pcond_f rfl ?_ | (with_reducible (show POps _ _ _ _ _ _ _); simp only [List.append_eq, List.cons_append, List.nil_append]))
  refine kretv rfl ⟨trivial, trivial⟩ rfl (eqB ?_)
  rw [Bool.eq_iff_iff]; simp [lowB]
theorem isDigit_c (c : Int) : PureC G.P 121 [vy c] (fun r => r = vb (digB c)) := by
  refine pure_of (G := G.toPg) (fn := Tryz.f121) Tryz.func121 rfl rfl rfl ?_; intro Γ hk
  repeat' (first | ((with_reducible (show POps _ _ _ _ (_ :: _) _ _)); (first | refine pop_read rfl rfl rfl rfl trivial ?_ | refine pop_guard rfl rfl rfl rfl rfl qgd ?_ | refine pop_new rfl rfl rfl rfl trivial ?_ | refine pop_store rfl rfl rfl Nat.zero_lt_one ?_ | refine pop_read rfl rfl rfl rfl qrd ?_ | refine pop_read2 rfl rfl rfl rfl trivial ?_ | refine pop_store rfl rfl rfl qst ?_ | fail)) | refine pnil ?_ | refine kround_exit ?_ | refine kround_ret ?_ | refine kround_next ?_ | refine kseq_normal ?_ | refine pseq ?_ | refine pregion ?_ | refine pret ?_ | refine kseq_ret ?_ | refine pskip ?_ | refine pblock ?_ | refine pexit ?_ | refine kseq_exit ?_ | refine kblock_hit rfl ?_ | refine kblock_miss rfl ?_ | refine kblock_ret ?_ | refine kblock_normal ?_ | refine kloop_ret ?_ | refine kloop_exit ?_ | refine kcut_ret ?_ | refine kcut_exit ?_ | refine pcond_t rfl ?_ | refine pcond_f rfl ?_ | (with_reducible (show POps _ _ _ _ _ _ _); simp only [List.append_eq, List.cons_append, List.nil_append]))
  refine kretv rfl ⟨trivial, trivial⟩ rfl (eqB ?_)
  rw [Bool.eq_iff_iff]; simp [digB]
def scanW (s : ByteArray) : Nat → Nat → Nat
  | 0, n => n
  | f + 1, n => if wrdB (byteI s n) then scanW s f (n + 1) else n
def wlenS (s : ByteArray) : Nat := if lowB (byteI s 0) = true then scanW s (s.size - 1) 1 else 0
theorem empty_eq (s : ByteArray) (h : 0 < s.size) : (s.toList == ({ data := #[] } : ByteArray).toList) = false := by
  rw [ByteArray.toList_eq, ByteArray.toList_eq]
  have e1 : s.data.toList.length = s.size := by rw [Array.length_toList]; rfl
  cases hl : s.data.toList with
  | nil => rw [hl] at e1; simp at e1; omega
  | cons a l => rfl
theorem wordLength_c (s : ByteArray) (h0 : 0 < s.size) (hs : s.size ≤ 1000) : PureC G.P 111 [vs s] (fun r => r = vi (wlenS s)) := by
  have he := empty_eq s h0
  refine pure_of (G := G.toPg) (fn := Tryz.f111) Tryz.func111 rfl rfl rfl ?_; intro Γ hk
  repeat' (first | ((with_reducible (show POps _ _ _ _ (_ :: _) _ _)); (first | refine pop_read rfl rfl rfl rfl trivial ?_ | refine pop_guard rfl rfl rfl rfl rfl qgd ?_ | refine pop_new rfl rfl rfl rfl trivial ?_ | refine pop_store rfl rfl rfl Nat.zero_lt_one ?_ | refine pop_read rfl rfl rfl rfl qrd ?_ | refine pop_read2 rfl rfl rfl rfl trivial ?_ | refine pop_store rfl rfl rfl qst ?_ | (refine pop_guard2 rfl rfl rfl rfl rfl ?_ ?_; (exact fun h => ⟨h, by omega, by omega⟩)) | (refine pop_callgv rfl rfl rfl rfl rfl rfl (fun _ => isLower_c (byteI s 0)) ?_ rfl rfl rfl ?_; (exact fun h => ⟨h, trivial⟩)) | fail)) | refine pnil ?_ | refine kround_exit ?_ | refine kround_ret ?_ | refine kround_next ?_ | refine kseq_normal ?_ | refine pseq ?_ | refine pregion ?_ | refine pret ?_ | refine kseq_ret ?_ | refine pskip ?_ | refine pblock ?_ | refine pexit ?_ | refine kseq_exit ?_ | refine kblock_hit rfl ?_ | refine kblock_miss rfl ?_ | refine kblock_ret ?_ | refine kblock_normal ?_ | refine kloop_ret ?_ | refine kloop_exit ?_ | refine kcut_ret ?_ | refine kcut_exit ?_ | refine pcond_t rfl ?_ | refine pcond_f rfl ?_ | (with_reducible (show POps _ _ _ _ _ _ _); simp only [List.append_eq, List.cons_append, List.nil_append]))
  rw [he]
  refine pcond rfl ?_ ?_ <;> intro hc
  · have hl : lowB (byteI s 0) = false := by simpa using hc
    repeat' (first | ((with_reducible (show POps _ _ _ _ (_ :: _) _ _)); (first | refine pop_read rfl rfl rfl rfl trivial ?_ | refine pop_guard rfl rfl rfl rfl rfl qgd ?_ | refine pop_new rfl rfl rfl rfl trivial ?_ | refine pop_store rfl rfl rfl Nat.zero_lt_one ?_ | refine pop_read rfl rfl rfl rfl qrd ?_ | refine pop_read2 rfl rfl rfl rfl trivial ?_ | refine pop_store rfl rfl rfl qst ?_ | fail)) | refine pnil ?_ | refine kround_exit ?_ | refine kround_ret ?_ | refine kround_next ?_ | refine kseq_normal ?_ | refine pseq ?_ | refine pregion ?_ | refine pret ?_ | refine kseq_ret ?_ | refine pskip ?_ | refine pblock ?_ | refine pexit ?_ | refine kseq_exit ?_ | refine kblock_hit rfl ?_ | refine kblock_miss rfl ?_ | refine kblock_ret ?_ | refine kblock_normal ?_ | refine kloop_ret ?_ | refine kloop_exit ?_ | refine kcut_ret ?_ | refine kcut_exit ?_ | refine pcond_t rfl ?_ | refine pcond_f rfl ?_ | (with_reducible (show POps _ _ _ _ _ _ _); simp only [List.append_eq, List.cons_append, List.nil_append]))
    refine kretv rfl ⟨trivial, trivial⟩ rfl (eqI ?_)
    rw [wlenS, hl]; rfl
  · have hl : lowB (byteI s 0) = true := by simpa using hc
    rw [wlenS, if_pos hl]
    repeat' (first | ((with_reducible (show POps _ _ _ _ (_ :: _) _ _)); (first | refine pop_read rfl rfl rfl rfl trivial ?_ | refine pop_guard rfl rfl rfl rfl rfl qgd ?_ | refine pop_new rfl rfl rfl rfl trivial ?_ | refine pop_store rfl rfl rfl Nat.zero_lt_one ?_ | refine pop_read rfl rfl rfl rfl qrd ?_ | refine pop_read2 rfl rfl rfl rfl trivial ?_ | refine pop_store rfl rfl rfl qst ?_ | fail)) | refine pnil ?_ | refine kround_exit ?_ | refine kround_ret ?_ | refine kround_next ?_ | refine kseq_normal ?_ | refine pseq ?_ | refine pregion ?_ | refine pret ?_ | refine kseq_ret ?_ | refine pskip ?_ | refine pblock ?_ | refine pexit ?_ | refine kseq_exit ?_ | refine kblock_hit rfl ?_ | refine kblock_miss rfl ?_ | refine kblock_ret ?_ | refine kblock_normal ?_ | refine kloop_ret ?_ | refine kloop_exit ?_ | refine kcut_ret ?_ | refine kcut_exit ?_ | refine pcond_t rfl ?_ | refine pcond_f rfl ?_ | (with_reducible (show POps _ _ _ _ _ _ _); simp only [List.append_eq, List.cons_append, List.nil_append]))
    refine pcan (can_sel [0, 3]) ?_
    refine ploop (fun q st => ∃ n : Nat, 1 ≤ n ∧ n ≤ s.size ∧ scanW s (s.size - n) n = scanW s (s.size - 1) 1 ∧ q = s.size - n ∧ st = ⟨[(0, vs s), (3, vi n)], []⟩) (s.size - 1) ⟨1, by omega, by omega, rfl, rfl, rfl⟩ ?_
    rintro _ _ ⟨n, n1, n2, hsc, rfl, rfl⟩
    repeat' (first | ((with_reducible (show POps _ _ _ _ (_ :: _) _ _)); (first | refine pop_read rfl rfl rfl rfl trivial ?_ | refine pop_guard rfl rfl rfl rfl rfl qgd ?_ | refine pop_new rfl rfl rfl rfl trivial ?_ | refine pop_store rfl rfl rfl Nat.zero_lt_one ?_ | refine pop_read rfl rfl rfl rfl qrd ?_ | refine pop_read2 rfl rfl rfl rfl trivial ?_ | refine pop_store rfl rfl rfl qst ?_ | (refine pop_guard2 rfl rfl rfl rfl rfl ?_ ?_; (exact fun h => ⟨h, h, by omega, by simp at h; omega⟩)) | (refine pop_callgv rfl rfl rfl rfl rfl rfl (fun _ => isLower_c (byteI s (n : Int).toNat)) ?_ rfl rfl rfl ?_; (exact fun h => ⟨h, trivial⟩)) | (refine pop_callgv rfl rfl rfl rfl rfl rfl (fun _ => isDigit_c (byteI s (n : Int).toNat)) ?_ rfl rfl rfl ?_; (exact fun h => ⟨h, trivial⟩)) | fail)) | refine pnil ?_ | refine kround_exit ?_ | refine kround_ret ?_ | refine kround_next ?_ | refine kseq_normal ?_ | refine pseq ?_ | refine pregion ?_ | refine pret ?_ | refine kseq_ret ?_ | refine pskip ?_ | refine pblock ?_ | refine pexit ?_ | refine kseq_exit ?_ | refine kblock_hit rfl ?_ | refine kblock_miss rfl ?_ | refine kblock_ret ?_ | refine kblock_normal ?_ | refine kloop_ret ?_ | refine kloop_exit ?_ | refine kcut_ret ?_ | refine kcut_exit ?_ | refine pcond_t rfl ?_ | refine pcond_f rfl ?_ | (with_reducible (show POps _ _ _ _ _ _ _); simp only [List.append_eq, List.cons_append, List.nil_append]))
    refine pcond rfl ?_ ?_ <;> intro hc2
    · have hlt : n < s.size ∧ wrdB (byteI s n) = true := by
        have hc2 : (bif decide ((n : Int) < (s.size : Int)) then (bif (bif lowB (byteI s n) then true else digB (byteI s n)) then true else byteI s n == 95) else false) = true := hc2
        by_cases hn : n < s.size
        · refine ⟨hn, ?_⟩
          unfold wrdB
          cases h1 : lowB (byteI s n) <;> cases h2 : digB (byteI s n) <;> simp_all
        · simp [hn] at hc2
      repeat' (first | ((with_reducible (show POps _ _ _ _ (_ :: _) _ _)); (first | refine pop_read rfl rfl rfl rfl trivial ?_ | refine pop_guard rfl rfl rfl rfl rfl qgd ?_ | refine pop_new rfl rfl rfl rfl trivial ?_ | refine pop_store rfl rfl rfl Nat.zero_lt_one ?_ | refine pop_read rfl rfl rfl rfl qrd ?_ | refine pop_read2 rfl rfl rfl rfl trivial ?_ | refine pop_store rfl rfl rfl qst ?_ | fail)) | refine pnil ?_ | refine kround_exit ?_ | refine kround_ret ?_ | refine kround_next ?_ | refine kseq_normal ?_ | refine pseq ?_ | refine pregion ?_ | refine pret ?_ | refine kseq_ret ?_ | refine pskip ?_ | refine pblock ?_ | refine pexit ?_ | refine kseq_exit ?_ | refine kblock_hit rfl ?_ | refine kblock_miss rfl ?_ | refine kblock_ret ?_ | refine kblock_normal ?_ | refine kloop_ret ?_ | refine kloop_exit ?_ | refine kcut_ret ?_ | refine kcut_exit ?_ | refine pcond_t rfl ?_ | refine pcond_f rfl ?_ | (with_reducible (show POps _ _ _ _ _ _ _); simp only [List.append_eq, List.cons_append, List.nil_append]))
      rw [show IntKind.i64.wrap ((n : Int) + 1) = ((n + 1 : Nat) : Int) from w64 (by omega) (by omega)]
      refine kloop_next (s.size - (n + 1)) (can_sel [0, 3]) (by omega) ⟨n + 1, by omega, by omega, ?_, rfl, rfl⟩
      rw [← hsc, show s.size - n = (s.size - (n + 1)) + 1 by omega, scanW, if_pos hlt.2]
    · have hlt : ¬ n < s.size ∨ wrdB (byteI s n) = false := by
        have hc2 : (bif decide ((n : Int) < (s.size : Int)) then (bif (bif lowB (byteI s n) then true else digB (byteI s n)) then true else byteI s n == 95) else false) = false := hc2
        by_cases hn : n < s.size
        · refine .inr ?_
          unfold wrdB
          cases h1 : lowB (byteI s n) <;> cases h2 : digB (byteI s n) <;> simp_all
        · exact .inl hn
      repeat' (first | ((with_reducible (show POps _ _ _ _ (_ :: _) _ _)); (first | refine pop_read rfl rfl rfl rfl trivial ?_ | refine pop_guard rfl rfl rfl rfl rfl qgd ?_ | refine pop_new rfl rfl rfl rfl trivial ?_ | refine pop_store rfl rfl rfl Nat.zero_lt_one ?_ | refine pop_read rfl rfl rfl rfl qrd ?_ | refine pop_read2 rfl rfl rfl rfl trivial ?_ | refine pop_store rfl rfl rfl qst ?_ | fail)) | refine pnil ?_ | refine kround_exit ?_ | refine kround_ret ?_ | refine kround_next ?_ | refine kseq_normal ?_ | refine pseq ?_ | refine pregion ?_ | refine pret ?_ | refine kseq_ret ?_ | refine pskip ?_ | refine pblock ?_ | refine pexit ?_ | refine kseq_exit ?_ | refine kblock_hit rfl ?_ | refine kblock_miss rfl ?_ | refine kblock_ret ?_ | refine kblock_normal ?_ | refine kloop_ret ?_ | refine kloop_exit ?_ | refine kcut_ret ?_ | refine kcut_exit ?_ | refine pcond_t rfl ?_ | refine pcond_f rfl ?_ | (with_reducible (show POps _ _ _ _ _ _ _); simp only [List.append_eq, List.cons_append, List.nil_append]))
      refine kretv rfl ⟨trivial, trivial⟩ rfl (eqI ?_)
      rw [← hsc]
      rcases hlt with h | h
      · rw [show s.size - n = 0 by omega, scanW]
      · by_cases hn : n < s.size
        · rw [show s.size - n = (s.size - (n + 1)) + 1 by omega, scanW, if_neg (by rw [h]; simp)]
        · rw [show s.size - n = 0 by omega, scanW]
def kwL : List ByteArray := [⟨#[97, 103, 114, 101, 101, 109, 101, 110, 116]⟩, ⟨#[105, 110, 112, 117, 116]⟩, ⟨#[112, 97, 115, 116]⟩, ⟨#[115, 99, 97, 108, 101]⟩, ⟨#[114, 117, 108, 101]⟩, ⟨#[112, 97, 121]⟩, ⟨#[102, 114, 111, 109]⟩, ⟨#[114, 111, 117, 110, 100, 101, 100]⟩, ⟨#[116, 111]⟩, ⟨#[105, 102]⟩, ⟨#[116, 104, 101, 110]⟩, ⟨#[101, 108, 115, 101]⟩, ⟨#[97, 110, 100]⟩, ⟨#[111, 114]⟩, ⟨#[110, 111, 116]⟩, ⟨#[116, 114, 117, 101]⟩, ⟨#[102, 97, 108, 115, 101]⟩, ⟨#[109, 105, 110]⟩, ⟨#[109, 97, 120]⟩, ⟨#[114, 111, 117, 110, 100]⟩, ⟨#[97, 118, 101, 114, 97, 103, 101]⟩, ⟨#[108, 97, 115, 116]⟩, ⟨#[109, 111, 110, 101, 121]⟩, ⟨#[104, 111, 117, 114, 115]⟩, ⟨#[100, 97, 121, 115]⟩, ⟨#[110, 117, 109, 98, 101, 114]⟩, ⟨#[98, 111, 111, 108]⟩, ⟨#[100, 111, 119, 110]⟩, ⟨#[117, 112]⟩, ⟨#[102, 108, 111, 111, 114]⟩, ⟨#[99, 101, 105, 108, 105, 110, 103]⟩, ⟨#[104, 97, 108, 102, 95, 117, 112]⟩, ⟨#[104, 97, 108, 102, 95, 100, 111, 119, 110]⟩, ⟨#[104, 97, 108, 102, 95, 101, 118, 101, 110]⟩]
def kwS (s : ByteArray) : Bool := kwL.any (fun k => s.toList == k.toList)
theorem isKeyword_c (s : ByteArray) : PureC G.P 112 [vs s] (fun r => r = vb (kwS s)) := by
  refine pure_of (G := G.toPg) (fn := Tryz.f112) Tryz.func112 rfl rfl rfl ?_; intro Γ hk
  repeat' (first | ((with_reducible (show POps _ _ _ _ (_ :: _) _ _)); (first | refine pop_read rfl rfl rfl rfl trivial ?_ | refine pop_guard rfl rfl rfl rfl rfl qgd ?_ | refine pop_new rfl rfl rfl rfl trivial ?_ | refine pop_store rfl rfl rfl Nat.zero_lt_one ?_ | refine pop_read rfl rfl rfl rfl qrd ?_ | refine pop_read2 rfl rfl rfl rfl trivial ?_ | refine pop_store rfl rfl rfl qst ?_ | fail)) | refine pnil ?_ | refine kround_exit ?_ | refine kround_ret ?_ | refine kround_next ?_ | refine kseq_normal ?_ | refine pseq ?_ | refine pregion ?_ | refine pret ?_ | refine kseq_ret ?_ | refine pskip ?_ | refine pblock ?_ | refine pexit ?_ | refine kseq_exit ?_ | refine kblock_hit rfl ?_ | refine kblock_miss rfl ?_ | refine kblock_ret ?_ | refine kblock_normal ?_ | refine kloop_ret ?_ | refine kloop_exit ?_ | refine kcut_ret ?_ | refine kcut_exit ?_ | refine pcond_t rfl ?_ | refine pcond_f rfl ?_ | (with_reducible (show POps _ _ _ _ _ _ _); simp only [List.append_eq, List.cons_append, List.nil_append]) | (refine pcond rfl ?_ ?_ <;> intro hc))
  all_goals refine kretv rfl ⟨trivial, trivial⟩ rfl (eqB ?_)
  all_goals first
    | (simp only [kwS, kwL, List.any_cons, List.any_nil, *, Bool.or_true, Bool.true_or, Bool.or_false, Bool.false_or]; done)
    | (exfalso; rename_i a; exact absurd (a.symm.trans hc) (by decide))
def nameS (s : ByteArray) : Bool := decide (0 < s.size ∧ s.size ≤ 24) && (decide (wlenS s = s.size) && !kwS s)
theorem isName_c (s : ByteArray) (hs : s.size ≤ 9223372036854775807) : PureC G.P 93 [vs s] (fun r => r = vb (nameS s)) := by
  have hg : ((bif decide ((0 : Int) < (s.size : Int)) then decide ((s.size : Int) ≤ 24) else false) == true) = true → 0 < s.size ∧ s.size ≤ 24 := fun h => by
    by_cases h1 : (0 : Int) < (s.size : Int)
    · by_cases h2 : (s.size : Int) ≤ 24
      · omega
      · rw [decide_eq_true h1, decide_eq_false h2] at h; cases h
    · rw [decide_eq_false h1] at h; cases h
  refine pure_of (G := G.toPg) (fn := Tryz.f93) Tryz.func93 rfl rfl rfl ?_; intro Γ hk
  repeat' (first | ((with_reducible (show POps _ _ _ _ (_ :: _) _ _)); (first | refine pop_read rfl rfl rfl rfl trivial ?_ | refine pop_guard rfl rfl rfl rfl rfl qgd ?_ | refine pop_new rfl rfl rfl rfl trivial ?_ | refine pop_store rfl rfl rfl Nat.zero_lt_one ?_ | refine pop_read rfl rfl rfl rfl qrd ?_ | refine pop_read2 rfl rfl rfl rfl trivial ?_ | refine pop_store rfl rfl rfl qst ?_ | (refine pop_callgv rfl rfl rfl rfl rfl rfl (fun h => wordLength_c s (hg h).1 (by have := hg h; omega)) ?_ rfl rfl rfl ?_; (exact fun h => ⟨h, trivial⟩)) | (refine pop_callgv rfl rfl rfl rfl rfl rfl (fun _ => isKeyword_c s) ?_ rfl rfl rfl ?_; (exact fun h => ⟨h, trivial⟩)) | fail)) | refine pnil ?_ | refine kround_exit ?_ | refine kround_ret ?_ | refine kround_next ?_ | refine kseq_normal ?_ | refine pseq ?_ | refine pregion ?_ | refine pret ?_ | refine kseq_ret ?_ | refine pskip ?_ | refine pblock ?_ | refine pexit ?_ | refine kseq_exit ?_ | refine kblock_hit rfl ?_ | refine kblock_miss rfl ?_ | refine kblock_ret ?_ | refine kblock_normal ?_ | refine kloop_ret ?_ | refine kloop_exit ?_ | refine kcut_ret ?_ | refine kcut_exit ?_ | refine pcond_t rfl ?_ | refine pcond_f rfl ?_ | (with_reducible (show POps _ _ _ _ _ _ _); simp only [List.append_eq, List.cons_append, List.nil_append]))
  refine kretv rfl ⟨trivial, trivial⟩ rfl (eqB ?_)
  unfold nameS
  have e1 : decide ((0 : Int) < (s.size : Int)) = decide (0 < s.size) := by rw [Bool.eq_iff_iff]; simp only [decide_eq_true_eq]; omega
  have e2 : decide ((s.size : Int) ≤ 24) = decide (s.size ≤ 24) := by rw [Bool.eq_iff_iff]; simp only [decide_eq_true_eq]; omega
  have e3 : ((wlenS s : Int) == (s.size : Int)) = decide (wlenS s = s.size) := by rw [Bool.eq_iff_iff]; simp only [decide_eq_true_eq, beq_iff_eq]; omega
  rw [e1, e2, e3, Bool.decide_and]
  cases decide (0 < s.size) <;> cases decide (s.size ≤ 24) <;> cases decide (wlenS s = s.size) <;> cases kwS s <;> rfl
theorem empty_iff (s : ByteArray) : (s.toList == ({ data := #[] } : ByteArray).toList) = !decide (0 < s.size) := by
  by_cases h0 : 0 < s.size
  · rw [empty_eq s h0, decide_eq_true h0]; rfl
  · rw [decide_eq_false h0, ByteArray.toList_eq, ByteArray.toList_eq]
    have : s.data.toList = [] := by
      apply List.length_eq_zero_iff.1
      rw [Array.length_toList]
      have : ¬ 0 < s.data.size := h0
      omega
    rw [this]; rfl
theorem bqd (a b : Int) : (a == b) = decide (a = b) := by rw [Bool.eq_iff_iff]; simp
theorem pcond_n {G : Pg} {N : Nat} {Γ : Fr} {st : PSt} {K : Exit → PSt → Prop} {c : Operand} {x y : Code} {b : Bool} (hc : st.ev c = .val (.bool b)) (hb : b = false) (h : PWp G N Γ y st K) : PWp G N Γ (.cond c x y) st K := pcond hc (fun h1 => by rw [hb] at h1; cases h1) (fun _ => h)
theorem pcond_y {G : Pg} {N : Nat} {Γ : Fr} {st : PSt} {K : Exit → PSt → Prop} {c : Operand} {x y : Code} {b : Bool} (hc : st.ev c = .val (.bool b)) (hb : b = true) (h : PWp G N Γ x st K) : PWp G N Γ (.cond c x y) st K := pcond hc (fun _ => h) (fun h1 => by rw [hb] at h1; cases h1)
inductive Ex where
  | nil
  | mk (op vn vd um uh ud : Int) (nm : ByteArray) (cnt mode : Int) (nk : Nat) (kf : Nat → Ex)
namespace Ex
def op : Ex → Int | .nil => 0 | .mk x _ _ _ _ _ _ _ _ _ _ => x
def vn : Ex → Int | .nil => 0 | .mk _ x _ _ _ _ _ _ _ _ _ => x
def vd : Ex → Int | .nil => 0 | .mk _ _ x _ _ _ _ _ _ _ _ => x
def um : Ex → Int | .nil => 0 | .mk _ _ _ x _ _ _ _ _ _ _ => x
def uh : Ex → Int | .nil => 0 | .mk _ _ _ _ x _ _ _ _ _ _ => x
def ud : Ex → Int | .nil => 0 | .mk _ _ _ _ _ x _ _ _ _ _ => x
def nm : Ex → ByteArray | .nil => ⟨#[]⟩ | .mk _ _ _ _ _ _ x _ _ _ _ => x
def cnt : Ex → Int | .nil => 0 | .mk _ _ _ _ _ _ _ x _ _ _ => x
def mode : Ex → Int | .nil => 0 | .mk _ _ _ _ _ _ _ _ x _ _ => x
def nk : Ex → Nat | .nil => 0 | .mk _ _ _ _ _ _ _ _ _ x _ => x
def kf : Ex → Nat → Ex | .nil => fun _ => .nil | .mk _ _ _ _ _ _ _ _ _ _ x => x
def kc : Ex → Nat → Nat → PV
  | .nil => fun _ _ => .junk
  | .mk _ _ _ _ _ _ _ _ _ _ kf => fun i j => nthP [vi (kf i).op, vi (kf i).vn, vi (kf i).vd, vi (kf i).um, vi (kf i).uh, vi (kf i).ud, vs (kf i).nm, vi (kf i).cnt, vi (kf i).mode, .vsl (kf i).nk 10 (kf i).kc] j
end Ex
abbrev cX (e : Ex) : List PV := [vi e.op, vi e.vn, vi e.vd, vi e.um, vi e.uh, vi e.ud, vs e.nm, vi e.cnt, vi e.mode, .vsl e.nk 10 e.kc]
theorem kc_eq {e : Ex} (h : 0 < e.nk) : e.kc = tF cX e.kf := by
  cases e with
  | nil => exact absurd h (Nat.lt_irrefl 0)
  | mk => rfl
theorem cX_cl : CellsCl cX := fun _ => ⟨trivial, trivial, trivial, trivial, trivial, trivial, trivial, trivial, trivial, trivial, trivial⟩
abbrev vX (e : Ex) : PV := .agg 10 (nthP (cX e))
abbrev En := Int × Int × Int
abbrev cN3 (x : En) : List PV := [vi x.1, vi x.2.1, vi x.2.2]
theorem cN3_cl : CellsCl cN3 := fun _ => ⟨trivial, trivial, trivial, trivial⟩
structure Ty where
  b : Bool
  m : Int
  h : Int
  d : Int
deriving DecidableEq
abbrev cT (t : Ty) : List PV := [vb t.b, vi t.m, vi t.h, vi t.d]
abbrev vT (t : Ty) : PV := .agg 4 (nthP (cT t))
abbrev t0 : Ty := ⟨false, 0, 0, 0⟩
abbrev tB : Ty := ⟨true, 0, 0, 0⟩
abbrev tM : Ty := ⟨false, 1, 0, 0⟩
structure Df where
  kind : Int
  nm : ByteArray
  ty : Ty
  day : Int
  ne : Nat
  ef : Nat → En
  body : Ex
  mode : Int
  sn : Int
  sd : Int
abbrev cD (d : Df) : List PV := [vi d.kind, vs d.nm, vb d.ty.b, vi d.ty.m, vi d.ty.h, vi d.ty.d, vi d.day, .vsl d.ne 3 (tF cN3 d.ef),
  vi d.body.op, vi d.body.vn, vi d.body.vd, vi d.body.um, vi d.body.uh, vi d.body.ud, vs d.body.nm, vi d.body.cnt, vi d.body.mode, .vsl d.body.nk 10 d.body.kc,
  vi d.mode, vi d.sn, vi d.sd]
theorem cD_cl : CellsCl cD := fun _ => by (repeat' (first | exact trivial | refine ⟨trivial, ?_⟩))
def kidsN (op : Int) : Int :=
  if op = 1 ∨ op = 2 ∨ op = 3 ∨ op = 20 ∨ op = 21 then 0 else if op = 4 ∨ op = 16 ∨ op = 17 ∨ op = 19 then 1 else if 5 ≤ op ∧ op ≤ 15 then 2 else if op = 18 then 3 else -1
def decS (n d : Int) : Bool := okR n d && (decide (0 ≤ n) && decide (Int.tmod 1000000 d = 0))
def unitS (m h d : Int) : Bool := decide (-3 ≤ m ∧ m ≤ 3) && (decide (-3 ≤ h ∧ h ≤ 3) && decide (-3 ≤ d ∧ d ≤ 3))
def fieldS (e : Ex) : Bool :=
  (if e.op = 1 then decS e.vn e.vd else if e.op = 19 then decS e.vn e.vd && decide (0 < e.vn) else decide (e.vn = 0 ∧ e.vd = 0)) &&
  ((if e.op = 1 ∨ e.op = 19 then unitS e.um e.uh e.ud else decide (e.um = 0 ∧ e.uh = 0 ∧ e.ud = 0)) &&
  ((if e.op = 3 ∨ e.op = 4 ∨ e.op = 20 ∨ e.op = 21 then nameS e.nm else e.nm.toList == []) &&
  ((if e.op = 2 then decide (e.cnt = 0 ∨ e.cnt = 1) else if e.op = 20 ∨ e.op = 21 then decide (1 ≤ e.cnt ∧ e.cnt ≤ 120) else decide (e.cnt = 0)) &&
  (if e.op = 19 then modeB e.mode else decide (e.mode = 0)))))
def allK (n : Nat) (p : Nat → Bool) : Bool := (List.range n).all p
theorem allK_iff {n : Nat} {p : Nat → Bool} : allK n p = true ↔ ∀ i, i < n → p i = true := by simp [allK, List.all_eq_true]
theorem allK_no {n i : Nat} {p : Nat → Bool} (hi : i < n) (h : p i = false) : allK n p = false := by
  cases hb : allK n p
  · rfl
  · have := allK_iff.1 hb i hi; rw [h] at this; cases this
def validS : Nat → Ex → Bool
  | 0, _ => false
  | n + 1, e => decide ((e.nk : Int) = kidsN e.op) && (fieldS e && allK e.nk (fun i => validS n (e.kf i)))
inductive Bd : Ex → Prop where
  | nil : Bd .nil
  | mk {op vn vd um uh ud : Int} {nm : ByteArray} {cnt mode : Int} {nk : Nat} {kf : Nat → Ex} (h : -9223372036854775808 ≤ vn ∧ vn ≤ 9223372036854775807 ∧ nm.size ≤ 9223372036854775807) (hk : ∀ i, i < nk → Bd (kf i)) : Bd (.mk op vn vd um uh ud nm cnt mode nk kf)
theorem Bd.v {e : Ex} (h : Bd e) : -9223372036854775808 ≤ e.vn ∧ e.vn ≤ 9223372036854775807 := by cases h with | nil => exact ⟨by decide, by decide⟩ | mk h _ => exact ⟨h.1, h.2.1⟩
theorem Bd.s {e : Ex} (h : Bd e) : e.nm.size ≤ 9223372036854775807 := by cases h with | nil => exact Nat.zero_le _ | mk h _ => exact h.2.2
theorem Bd.k {e : Ex} (h : Bd e) {i : Nat} (hi : i < e.nk) : Bd (e.kf i) := by cases h with | nil => exact absurd hi (Nat.not_lt_zero _) | mk _ h => exact h i hi
def findS : List Df → ByteArray → Ty × Int
  | [], _ => (t0, 7)
  | d :: l, s => if d.nm.toList = s.toList then (if d.kind = 4 then (tM, 0) else (d.ty, 0)) else findS l s
def mulT (a b : Ty) (s : Int) : Ty × Int :=
  if unitS a.m a.h a.d = true ∧ unitS b.m b.h b.d = true ∧ unitS (a.m + s * b.m) (a.h + s * b.h) (a.d + s * b.d) = true then (⟨false, a.m + s * b.m, a.h + s * b.h, a.d + s * b.d⟩, 0) else (t0, 10)
def equS (a b : Ty) : Int := if a.b = true ∨ b.b = true then 9 else if a.m = b.m ∧ a.h = b.h ∧ a.d = b.d then 0 else 10
def resS (t : Ty) (e : Int) : Ty × Int := if e = 0 then (t, 0) else (t0, e)
def opS (N S P : List Df) (e : Ex) (a b c : Ty) : Ty × Int :=
  if e.op = 1 then (⟨false, e.um, e.uh, e.ud⟩, 0) else if e.op = 2 then (tB, 0) else if e.op = 3 then findS N e.nm else if e.op = 20 ∨ e.op = 21 then findS P e.nm
  else if e.op = 4 then (if (findS S e.nm).2 ≠ 0 then (t0, (findS S e.nm).2) else resS (findS S e.nm).1 (equS a t0))
  else if e.op = 5 ∨ e.op = 6 ∨ e.op = 14 ∨ e.op = 15 then resS a (equS a b)
  else if e.op = 7 then (if a.b = true ∨ b.b = true then (t0, 9) else mulT a b 1)
  else if e.op = 8 then (if a.b = true ∨ b.b = true then (t0, 9) else mulT a b (-1))
  else if e.op = 9 ∨ e.op = 10 then resS tB (equS a b)
  else if e.op = 11 then (if a.b = true ∧ b.b = true then (tB, 0) else resS tB (equS a b))
  else if e.op = 12 ∨ e.op = 13 then (if a.b = true ∧ b.b = true then (tB, 0) else (t0, 9))
  else if e.op = 17 then (if a.b = true then (tB, 0) else (t0, 9))
  else if e.op = 16 then (if a.b = true then (t0, 9) else (a, 0))
  else if e.op = 18 then (if a.b = true then (if b.b = true ∧ c.b = true then (b, 0) else resS b (equS b c)) else (t0, 9))
  else if e.op = 19 then resS a (equS a ⟨false, e.um, e.uh, e.ud⟩)
  else (t0, 1)
def typeS (N S P : List Df) : Nat → Ex → Ty × Int
  | 0, _ => (t0, 1)
  | n + 1, e =>
    if 0 < e.nk ∧ (typeS N S P n (e.kf 0)).2 ≠ 0 then (t0, (typeS N S P n (e.kf 0)).2)
    else if 1 < e.nk ∧ (typeS N S P n (e.kf 1)).2 ≠ 0 then (t0, (typeS N S P n (e.kf 1)).2)
    else if 2 < e.nk ∧ (typeS N S P n (e.kf 2)).2 ≠ 0 then (t0, (typeS N S P n (e.kf 2)).2)
    else opS N S P e (if 0 < e.nk then (typeS N S P n (e.kf 0)).1 else t0) (if 1 < e.nk then (typeS N S P n (e.kf 1)).1 else t0) (if 2 < e.nk then (typeS N S P n (e.kf 2)).1 else t0)
abbrev dD : Df := ⟨0, ⟨#[]⟩, t0, 0, 0, fun _ => (0, 0, 0), .nil, 0, 0, 0⟩
abbrev vDs (l : List Df) : PV := .vsl l.length 21 (tF cD (lF dD l))
def tyD (d : Df) : Ty := if d.kind = 4 then tM else d.ty
def isNm (d : Df) : Bool := decide (d.kind = 1 ∨ d.kind = 3 ∨ d.kind = 4)
def isSc (d : Df) : Bool := decide (d.kind = 2)
def isPa (d : Df) : Bool := decide (d.kind = 5)
def typS (t : Ty) : Bool := if t.b = true then decide (t.m = 0 ∧ t.h = 0 ∧ t.d = 0) else unitS t.m t.h t.d
def zeroX (e : Ex) : Bool := decide (e.op = 0) && (decide (e.vn = 0 ∧ e.vd = 0) && (decide (e.um = 0 ∧ e.uh = 0 ∧ e.ud = 0) && ((e.nm.toList == []) && (decide (e.cnt = 0) && (decide (e.mode = 0) && decide (e.nk = 0))))))
def dayS (d : Int) : Bool := decide (0 ≤ d ∧ d ≤ 84005)
def entsS (n : Nat) (f : Nat → En) : Bool := decide (1 ≤ n ∧ n ≤ 64) && allK n (fun i => decide ((if i = 0 then -1 else (f (i - 1)).1) < (f i).1 ∧ (f i).1 ≤ 1000000) && decS (f i).2.1 (f i).2.2)
def stepS (n d : Int) : Bool := decS n d && (decide (0 < n) && decide (Int.tmod 100 d = 0))
def tz (t : Ty) : Bool := decide (t = t0)
def defS (d : Df) : Bool :=
  if d.kind = 1 then typS d.ty && (decide (d.day = 0) && (decide (d.ne = 0) && (zeroX d.body && (decide (d.mode = 0) && decide (d.sn = 0 ∧ d.sd = 0)))))
  else if d.kind = 5 then (typS d.ty && !d.ty.b) && (decide (d.day = 0) && (decide (d.ne = 0) && (zeroX d.body && (decide (d.mode = 0) && decide (d.sn = 0 ∧ d.sd = 0)))))
  else if d.kind = 2 then (typS d.ty && !d.ty.b) && (dayS d.day && (entsS d.ne d.ef && (zeroX d.body && (decide (d.mode = 0) && decide (d.sn = 0 ∧ d.sd = 0)))))
  else if d.kind = 3 then typS d.ty && (dayS d.day && (decide (d.ne = 0) && (validS 32 d.body && (decide (d.mode = 0) && decide (d.sn = 0 ∧ d.sd = 0)))))
  else if d.kind = 4 then tz d.ty && (dayS d.day && (decide (d.ne = 0) && (validS 32 d.body && (modeB d.mode && stepS d.sn d.sd))))
  else false
abbrev vA (nm : ByteArray) (l : List Df) : PV := .agg 2 (nthP [vs nm, vDs l])
abbrev cPr (x : Int × Int) : List PV := [vi x.1, vi x.2]
structure BdD (d : Df) : Prop where
  nm : d.nm.size ≤ 9223372036854775807
  ef : ∀ i, i < d.ne → -9223372036854775808 ≤ (d.ef i).2.1 ∧ (d.ef i).2.1 ≤ 9223372036854775807
  ne : d.ne ≤ 1000000
  body : Bd d.body
  st : -9223372036854775808 ≤ d.sn ∧ d.sn ≤ 9223372036854775807
theorem kidsN_le (op : Int) : kidsN op ≤ 3 := by unfold kidsN; repeat' split
                                                 all_goals omega
theorem cT_cl : CellsCl cT := fun _ => ⟨trivial, trivial, trivial, trivial, trivial⟩
def kt (T : Nat → Ty × Int) (i j : Nat) : Ty := if j < i then (T j).1 else t0
def opK (N S P : List Df) (e : Ex) (T : Nat → Ty × Int) : Ty × Int := opS N S P e (kt T e.nk 0) (kt T e.nk 1) (kt T e.nk 2)
theorem typeS_succ (N S P : List Df) (n : Nat) (e : Ex) {T : Nat → Ty × Int} (hT : ∀ i, typeS N S P n (e.kf i) = T i) (h3 : e.nk ≤ 3) :
    (∀ i, i < e.nk → (∀ j, j < i → (T j).2 = 0) → (T i).2 ≠ 0 → typeS N S P (n + 1) e = (t0, (T i).2)) ∧ ((∀ j, j < e.nk → (T j).2 = 0) → typeS N S P (n + 1) e = opK N S P e T) := by
  constructor
  · intro i hi hj h
    rw [typeS]
    simp only [hT]
    rcases (by omega : i = 0 ∨ i = 1 ∨ i = 2) with rfl | rfl | rfl
    · rw [if_pos ⟨hi, h⟩]
    · rw [if_neg (by rintro ⟨_, h1⟩; exact h1 (hj 0 (by omega))), if_pos ⟨hi, h⟩]
    · rw [if_neg (by rintro ⟨_, h1⟩; exact h1 (hj 0 (by omega))), if_neg (by rintro ⟨_, h1⟩; exact h1 (hj 1 (by omega))), if_pos ⟨hi, h⟩]
  · intro h
    rw [typeS]
    simp only [hT]
    rw [if_neg (by rintro ⟨h0, h1⟩; exact h1 (h 0 h0)), if_neg (by rintro ⟨h0, h1⟩; exact h1 (h 1 h0)), if_neg (by rintro ⟨h0, h1⟩; exact h1 (h 2 h0))]
    rfl
abbrev vD (d : Df) : PV := .agg 21 (nthP (cD d))
end Go.Proofs.YtdifpajpheemaaaGreatDoor
