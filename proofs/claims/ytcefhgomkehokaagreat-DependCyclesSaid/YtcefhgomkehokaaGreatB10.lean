/- payrollref1.Valid. -/
import Derived.Test.YtcefhgomkehokaaGreatB06
import Derived.Test.YtcefhgomkehokaaGreatB07
import Derived.Test.YtcefhgomkehokaaGreatB09
set_option linter.unusedSimpArgs false
set_option linter.unusedVariables false
set_option maxRecDepth 100000
namespace Go.Proofs.YtcefhgomkehokaaGreat
theorem size_c (n : Int) (h1 : -9223372036854775808 ≤ n) (h2 : n ≤ 9223372036854775807) : PureC G.P 133 [vi n] (fun r => r = vu n.natAbs) := by
  refine pure_of (G := G.toPg) (fn := Tryz.f133) Tryz.func133 rfl rfl rfl ?_; intro Γ hk
  repeat' (first | ((with_reducible (show POps _ _ _ _ (_ :: _) _ _)); (first | refine pop_read rfl rfl rfl rfl trivial ?_ | refine pop_guard rfl rfl rfl rfl rfl qgd ?_ | refine pop_new rfl rfl rfl rfl trivial ?_ | refine pop_store rfl rfl rfl Nat.zero_lt_one ?_ | refine pop_read rfl rfl rfl rfl qrd ?_ | refine pop_read2 rfl rfl rfl rfl trivial ?_ | refine pop_store rfl rfl rfl qst ?_ | fail)) | refine pnil ?_ | refine kround_exit ?_ | refine kround_ret ?_ | refine kround_next ?_ | refine kseq_normal ?_ | refine pseq ?_ | refine pregion ?_ | refine pret ?_ | refine kseq_ret ?_ | refine pskip ?_ | refine pblock ?_ | refine pexit ?_ | refine kseq_exit ?_ | refine kblock_hit rfl ?_ | refine kblock_miss rfl ?_ | refine kblock_ret ?_ | refine kblock_normal ?_ | refine kloop_ret ?_ | refine kloop_exit ?_ | refine kcut_ret ?_ | refine kcut_exit ?_ | refine pcond_t rfl ?_ | refine pcond_f rfl ?_ | (with_reducible (show POps _ _ _ _ _ _ _); simp only [List.append_eq, List.cons_append, List.nil_append]))
  refine pcond rfl ?_ ?_ <;> intro hc
  · have hc : n < 0 := by simpa using hc
    repeat' (first | ((with_reducible (show POps _ _ _ _ (_ :: _) _ _)); (first | refine pop_read rfl rfl rfl rfl trivial ?_ | refine pop_guard rfl rfl rfl rfl rfl qgd ?_ | refine pop_new rfl rfl rfl rfl trivial ?_ | refine pop_store rfl rfl rfl Nat.zero_lt_one ?_ | refine pop_read rfl rfl rfl rfl qrd ?_ | refine pop_read2 rfl rfl rfl rfl trivial ?_ | refine pop_store rfl rfl rfl qst ?_ | fail)) | refine pnil ?_ | refine kround_exit ?_ | refine kround_ret ?_ | refine kround_next ?_ | refine kseq_normal ?_ | refine pseq ?_ | refine pregion ?_ | refine pret ?_ | refine kseq_ret ?_ | refine pskip ?_ | refine pblock ?_ | refine pexit ?_ | refine kseq_exit ?_ | refine kblock_hit rfl ?_ | refine kblock_miss rfl ?_ | refine kblock_ret ?_ | refine kblock_normal ?_ | refine kloop_ret ?_ | refine kloop_exit ?_ | refine kcut_ret ?_ | refine kcut_exit ?_ | refine pcond_t rfl ?_ | refine pcond_f rfl ?_ | (with_reducible (show POps _ _ _ _ _ _ _); simp only [List.append_eq, List.cons_append, List.nil_append]))
    refine kretv rfl ⟨trivial, trivial⟩ rfl (eqI ?_)
    rw [w64 (n := n + 1) (by omega) (by omega), w64 (by omega) (by omega), wu64 (n := 0 - (n + 1)) (by omega) (by omega), wu64 (by omega) (by omega)]; omega
  · have hc : 0 ≤ n := by simpa using hc
    repeat' (first | ((with_reducible (show POps _ _ _ _ (_ :: _) _ _)); (first | refine pop_read rfl rfl rfl rfl trivial ?_ | refine pop_guard rfl rfl rfl rfl rfl qgd ?_ | refine pop_new rfl rfl rfl rfl trivial ?_ | refine pop_store rfl rfl rfl Nat.zero_lt_one ?_ | refine pop_read rfl rfl rfl rfl qrd ?_ | refine pop_read2 rfl rfl rfl rfl trivial ?_ | refine pop_store rfl rfl rfl qst ?_ | fail)) | refine pnil ?_ | refine kround_exit ?_ | refine kround_ret ?_ | refine kround_next ?_ | refine kseq_normal ?_ | refine pseq ?_ | refine pregion ?_ | refine pret ?_ | refine kseq_ret ?_ | refine pskip ?_ | refine pblock ?_ | refine pexit ?_ | refine kseq_exit ?_ | refine kblock_hit rfl ?_ | refine kblock_miss rfl ?_ | refine kblock_ret ?_ | refine kblock_normal ?_ | refine kloop_ret ?_ | refine kloop_exit ?_ | refine kcut_ret ?_ | refine kcut_exit ?_ | refine pcond_t rfl ?_ | refine pcond_f rfl ?_ | (with_reducible (show POps _ _ _ _ _ _ _); simp only [List.append_eq, List.cons_append, List.nil_append]))
    refine kretv rfl ⟨trivial, trivial⟩ rfl (eqI ?_)
    rw [wu64 hc (by omega)]; omega
theorem common_c (a b : Nat) (ha : a < 18446744073709551616) (hb : b < 18446744073709551616) : PureC G.P 132 [vu a, vu b] (fun r => r = vu (Nat.gcd a b)) := by
  refine pure_of (G := G.toPg) (fn := Tryz.f132) Tryz.func132 rfl rfl rfl ?_; intro Γ hk
  repeat' (first | ((with_reducible (show POps _ _ _ _ (_ :: _) _ _)); (first | refine pop_read rfl rfl rfl rfl trivial ?_ | refine pop_guard rfl rfl rfl rfl rfl qgd ?_ | refine pop_new rfl rfl rfl rfl trivial ?_ | refine pop_store rfl rfl rfl Nat.zero_lt_one ?_ | refine pop_read rfl rfl rfl rfl qrd ?_ | refine pop_read2 rfl rfl rfl rfl trivial ?_ | refine pop_store rfl rfl rfl qst ?_ | fail)) | refine pnil ?_ | refine kround_exit ?_ | refine kround_ret ?_ | refine kround_next ?_ | refine kseq_normal ?_ | refine pseq ?_ | refine pregion ?_ | refine pret ?_ | refine kseq_ret ?_ | refine pskip ?_ | refine pblock ?_ | refine pexit ?_ | refine kseq_exit ?_ | refine kblock_hit rfl ?_ | refine kblock_miss rfl ?_ | refine kblock_ret ?_ | refine kblock_normal ?_ | refine kloop_ret ?_ | refine kloop_exit ?_ | refine kcut_ret ?_ | refine kcut_exit ?_ | refine pcond_t rfl ?_ | refine pcond_f rfl ?_ | (with_reducible (show POps _ _ _ _ _ _ _); simp only [List.append_eq, List.cons_append, List.nil_append]))
  refine pcan (can_sel [0, 1]) ?_
  refine ploop (fun n st => ∃ p q : Nat, Nat.gcd p q = Nat.gcd a b ∧ p < 18446744073709551616 ∧ q < 18446744073709551616 ∧ q = n ∧ st = ⟨[(0, vu p), (1, vu q)], []⟩) b ⟨a, b, rfl, ha, hb, rfl, rfl⟩ ?_
  rintro _ _ ⟨p, q, hg, hp, hq, rfl, rfl⟩
  repeat' (first | ((with_reducible (show POps _ _ _ _ (_ :: _) _ _)); (first | refine pop_read rfl rfl rfl rfl trivial ?_ | refine pop_guard rfl rfl rfl rfl rfl qgd ?_ | refine pop_new rfl rfl rfl rfl trivial ?_ | refine pop_store rfl rfl rfl Nat.zero_lt_one ?_ | refine pop_read rfl rfl rfl rfl qrd ?_ | refine pop_read2 rfl rfl rfl rfl trivial ?_ | refine pop_store rfl rfl rfl qst ?_ | fail)) | refine pnil ?_ | refine kround_exit ?_ | refine kround_ret ?_ | refine kround_next ?_ | refine kseq_normal ?_ | refine pseq ?_ | refine pregion ?_ | refine pret ?_ | refine kseq_ret ?_ | refine pskip ?_ | refine pblock ?_ | refine pexit ?_ | refine kseq_exit ?_ | refine kblock_hit rfl ?_ | refine kblock_miss rfl ?_ | refine kblock_ret ?_ | refine kblock_normal ?_ | refine kloop_ret ?_ | refine kloop_exit ?_ | refine kcut_ret ?_ | refine kcut_exit ?_ | refine pcond_t rfl ?_ | refine pcond_f rfl ?_ | (with_reducible (show POps _ _ _ _ _ _ _); simp only [List.append_eq, List.cons_append, List.nil_append]))
  refine pcond rfl ?_ ?_ <;> intro hc
  · have hq0 : (q : Int) ≠ 0 := by simpa using hc
    repeat' (first | ((with_reducible (show POps _ _ _ _ (_ :: _) _ _)); (first | refine pop_read rfl rfl rfl rfl trivial ?_ | refine pop_guard rfl rfl rfl rfl rfl qgd ?_ | refine pop_new rfl rfl rfl rfl trivial ?_ | refine pop_store rfl rfl rfl Nat.zero_lt_one ?_ | refine pop_read rfl rfl rfl rfl qrd ?_ | refine pop_read2 rfl rfl rfl rfl trivial ?_ | refine pop_store rfl rfl rfl qst ?_ | fail)) | refine pnil ?_ | refine kround_exit ?_ | refine kround_ret ?_ | refine kround_next ?_ | refine kseq_normal ?_ | refine pseq ?_ | refine pregion ?_ | refine pret ?_ | refine kseq_ret ?_ | refine pskip ?_ | refine pblock ?_ | refine pexit ?_ | refine kseq_exit ?_ | refine kblock_hit rfl ?_ | refine kblock_miss rfl ?_ | refine kblock_ret ?_ | refine kblock_normal ?_ | refine kloop_ret ?_ | refine kloop_exit ?_ | refine kcut_ret ?_ | refine kcut_exit ?_ | refine pcond_t rfl ?_ | refine pcond_f rfl ?_ | (with_reducible (show POps _ _ _ _ _ _ _); simp only [List.append_eq, List.cons_append, List.nil_append]))
    (refine any_start [] 6 rfl ?_); (first | refine aT 0 ?_ | refine aT2 0 ?_ | (refine aC 0 ?_ ?_; rotate_left)); (first | refine aT 1 ?_ | refine aT2 1 ?_ | (refine aC 1 ?_ ?_; rotate_left)); (first | refine aT 2 ?_ | refine aT2 2 ?_ | (refine aC 2 ?_ ?_; rotate_left)); (first | refine aT 3 ?_ | refine aT2 3 ?_ | (refine aC 3 ?_ ?_; rotate_left)); (first | refine aT 4 ?_ | refine aT2 4 ?_ | (refine aC 4 ?_ ?_; rotate_left)); (first | refine aT 5 ?_ | refine aT2 5 ?_ | (refine aC 5 ?_ ?_; rotate_left)); (refine any_done (by kernel_rfl) ?_)
    repeat' (first | ((with_reducible (show POps _ _ _ _ (_ :: _) _ _)); (first | refine pop_read rfl rfl rfl rfl trivial ?_ | refine pop_guard rfl rfl rfl rfl rfl qgd ?_ | refine pop_new rfl rfl rfl rfl trivial ?_ | refine pop_store rfl rfl rfl Nat.zero_lt_one ?_ | refine pop_read rfl rfl rfl rfl qrd ?_ | refine pop_read2 rfl rfl rfl rfl trivial ?_ | refine pop_store rfl rfl rfl qst ?_ | fail)) | refine pnil ?_ | refine kround_exit ?_ | refine kround_ret ?_ | refine kround_next ?_ | refine kseq_normal ?_ | refine pseq ?_ | refine pregion ?_ | refine pret ?_ | refine kseq_ret ?_ | refine pskip ?_ | refine pblock ?_ | refine pexit ?_ | refine kseq_exit ?_ | refine kblock_hit rfl ?_ | refine kblock_miss rfl ?_ | refine kblock_ret ?_ | refine kblock_normal ?_ | refine kloop_ret ?_ | refine kloop_exit ?_ | refine kcut_ret ?_ | refine kcut_exit ?_ | refine pcond_t rfl ?_ | refine pcond_f rfl ?_ | (with_reducible (show POps _ _ _ _ _ _ _); simp only [List.append_eq, List.cons_append, List.nil_append]))
    have hlt : p % q < q := Nat.mod_lt _ (by omega)
    exact kloop_next (p % q) (can_sel [0, 1]) hlt ⟨q, p % q, (gcd_step p q).trans hg, hq, by omega, rfl, rfl⟩
  · have hq0 : q = 0 := by simpa using hc
    subst hq0
    repeat' (first | ((with_reducible (show POps _ _ _ _ (_ :: _) _ _)); (first | refine pop_read rfl rfl rfl rfl trivial ?_ | refine pop_guard rfl rfl rfl rfl rfl qgd ?_ | refine pop_new rfl rfl rfl rfl trivial ?_ | refine pop_store rfl rfl rfl Nat.zero_lt_one ?_ | refine pop_read rfl rfl rfl rfl qrd ?_ | refine pop_read2 rfl rfl rfl rfl trivial ?_ | refine pop_store rfl rfl rfl qst ?_ | fail)) | refine pnil ?_ | refine kround_exit ?_ | refine kround_ret ?_ | refine kround_next ?_ | refine kseq_normal ?_ | refine pseq ?_ | refine pregion ?_ | refine pret ?_ | refine kseq_ret ?_ | refine pskip ?_ | refine pblock ?_ | refine pexit ?_ | refine kseq_exit ?_ | refine kblock_hit rfl ?_ | refine kblock_miss rfl ?_ | refine kblock_ret ?_ | refine kblock_normal ?_ | refine kloop_ret ?_ | refine kloop_exit ?_ | refine kcut_ret ?_ | refine kcut_exit ?_ | refine pcond_t rfl ?_ | refine pcond_f rfl ?_ | (with_reducible (show POps _ _ _ _ _ _ _); simp only [List.append_eq, List.cons_append, List.nil_append]))
    exact kretv rfl ⟨trivial, trivial⟩ rfl (eqI (by rw [← hg]; simp))
theorem commonI_c (a b : Int) (ha0 : 0 ≤ a) (ha : a < 18446744073709551616) (hb0 : 0 ≤ b) (hb : b < 18446744073709551616) : PureC G.P 132 [vu a, vu b] (fun r => r = vu (Int.gcd a b)) := by
  obtain ⟨a, rfl⟩ := Int.eq_ofNat_of_zero_le ha0
  obtain ⟨b, rfl⟩ := Int.eq_ofNat_of_zero_le hb0
  exact common_c a b (by omega) (by omega)
theorem ref1Valid_c (n d : Int) (h1 : -9223372036854775808 ≤ n) (h2 : n ≤ 9223372036854775807) : PureC G.P 118 [vr n d] (fun r => r = vb (okR n d)) := by
  refine pure_of (G := G.toPg) (fn := Tryz.f118) Tryz.func118 rfl rfl rfl ?_; intro Γ hk
  repeat' (first | ((with_reducible (show POps _ _ _ _ (_ :: _) _ _)); (first | refine pop_read rfl rfl rfl rfl trivial ?_ | refine pop_guard rfl rfl rfl rfl rfl qgd ?_ | refine pop_new rfl rfl rfl rfl trivial ?_ | refine pop_store rfl rfl rfl Nat.zero_lt_one ?_ | refine pop_read rfl rfl rfl rfl qrd ?_ | refine pop_read2 rfl rfl rfl rfl trivial ?_ | refine pop_store rfl rfl rfl qst ?_ | fail)) | refine pnil ?_ | refine kround_exit ?_ | refine kround_ret ?_ | refine kround_next ?_ | refine kseq_normal ?_ | refine pseq ?_ | refine pregion ?_ | refine pret ?_ | refine kseq_ret ?_ | refine pskip ?_ | refine pblock ?_ | refine pexit ?_ | refine kseq_exit ?_ | refine kblock_hit rfl ?_ | refine kblock_miss rfl ?_ | refine kblock_ret ?_ | refine kblock_normal ?_ | refine kloop_ret ?_ | refine kloop_exit ?_ | refine kcut_ret ?_ | refine kcut_exit ?_ | refine pcond_t rfl ?_ | refine pcond_f rfl ?_ | (with_reducible (show POps _ _ _ _ _ _ _); simp only [List.append_eq, List.cons_append, List.nil_append]))
  (refine any_start [0] 29 rfl ?_); (first | refine aT 0 ?_ | refine aT2 0 ?_ | (refine aC 0 ?_ ?_; rotate_left)); (first | refine aT 1 ?_ | refine aT2 1 ?_ | (refine aC 1 ?_ ?_; rotate_left)); (first | refine aT 2 ?_ | refine aT2 2 ?_ | (refine aC 2 ?_ ?_; rotate_left)); (first | refine aT 3 ?_ | refine aT2 3 ?_ | (refine aC 3 ?_ ?_; rotate_left)); (first | refine any_takeg 4 rfl (by kernel_rfl) (by kernel_rfl) (by kernel_rfl) rfl rfl rfl rfl rfl rfl qtg ?_ | (refine any_takeg 4 rfl (by kernel_rfl) (by kernel_rfl) (by kernel_rfl) rfl rfl rfl rfl rfl rfl (fun h => ?_) ?_; rotate_left)); (first | refine any_takeg 5 rfl (by kernel_rfl) (by kernel_rfl) (by kernel_rfl) rfl rfl rfl rfl rfl rfl qtg ?_ | (refine any_takeg 5 rfl (by kernel_rfl) (by kernel_rfl) (by kernel_rfl) rfl rfl rfl rfl rfl rfl (fun h => ?_) ?_; rotate_left)); (first | refine any_takeg 6 rfl (by kernel_rfl) (by kernel_rfl) (by kernel_rfl) rfl rfl rfl rfl rfl rfl qtg ?_ | (refine any_takeg 6 rfl (by kernel_rfl) (by kernel_rfl) (by kernel_rfl) rfl rfl rfl rfl rfl rfl (fun h => ?_) ?_; rotate_left)); (first | refine aT 7 ?_ | refine aT2 7 ?_ | (refine aC 7 ?_ ?_; rotate_left)); (first | refine aT 8 ?_ | refine aT2 8 ?_ | (refine aC 8 ?_ ?_; rotate_left)); (first | refine any_takeg 9 rfl (by kernel_rfl) (by kernel_rfl) (by kernel_rfl) rfl rfl rfl rfl rfl rfl qtg ?_ | (refine any_takeg 9 rfl (by kernel_rfl) (by kernel_rfl) (by kernel_rfl) rfl rfl rfl rfl rfl rfl (fun h => ?_) ?_; rotate_left)); (first | refine any_takeg 10 rfl (by kernel_rfl) (by kernel_rfl) (by kernel_rfl) rfl rfl rfl rfl rfl rfl qtg ?_ | (refine any_takeg 10 rfl (by kernel_rfl) (by kernel_rfl) (by kernel_rfl) rfl rfl rfl rfl rfl rfl (fun h => ?_) ?_; rotate_left)); (first | refine any_takeg 11 rfl (by kernel_rfl) (by kernel_rfl) (by kernel_rfl) rfl rfl rfl rfl rfl rfl qtg ?_ | (refine any_takeg 11 rfl (by kernel_rfl) (by kernel_rfl) (by kernel_rfl) rfl rfl rfl rfl rfl rfl (fun h => ?_) ?_; rotate_left)); (first | refine aT 12 ?_ | refine aT2 12 ?_ | (refine aC 12 ?_ ?_; rotate_left)); (first | refine aT 13 ?_ | refine aT2 13 ?_ | (refine aC 13 ?_ ?_; rotate_left)); (first | refine any_takeg 14 rfl (by kernel_rfl) (by kernel_rfl) (by kernel_rfl) rfl rfl rfl rfl rfl rfl qtg ?_ | (refine any_takeg 14 rfl (by kernel_rfl) (by kernel_rfl) (by kernel_rfl) rfl rfl rfl rfl rfl rfl (fun h => ?_) ?_; rotate_left)); (first | refine any_takeg 15 rfl (by kernel_rfl) (by kernel_rfl) (by kernel_rfl) rfl rfl rfl rfl rfl rfl qtg ?_ | (refine any_takeg 15 rfl (by kernel_rfl) (by kernel_rfl) (by kernel_rfl) rfl rfl rfl rfl rfl rfl (fun h => ?_) ?_; rotate_left)); (first | refine any_takeg 16 rfl (by kernel_rfl) (by kernel_rfl) (by kernel_rfl) rfl rfl rfl rfl rfl rfl qtg ?_ | (refine any_takeg 16 rfl (by kernel_rfl) (by kernel_rfl) (by kernel_rfl) rfl rfl rfl rfl rfl rfl (fun h => ?_) ?_; rotate_left)); (first | refine aT 17 ?_ | refine aT2 17 ?_ | (refine aC 17 ?_ ?_; rotate_left)); (first | refine aT 18 ?_ | refine aT2 18 ?_ | (refine aC 18 ?_ ?_; rotate_left)); (first | refine any_takeg 19 rfl (by kernel_rfl) (by kernel_rfl) (by kernel_rfl) rfl rfl rfl rfl rfl rfl qtg ?_ | (refine any_takeg 19 rfl (by kernel_rfl) (by kernel_rfl) (by kernel_rfl) rfl rfl rfl rfl rfl rfl (fun h => ?_) ?_; rotate_left)); (first | refine any_takeg 20 rfl (by kernel_rfl) (by kernel_rfl) (by kernel_rfl) rfl rfl rfl rfl rfl rfl qtg ?_ | (refine any_takeg 20 rfl (by kernel_rfl) (by kernel_rfl) (by kernel_rfl) rfl rfl rfl rfl rfl rfl (fun h => ?_) ?_; rotate_left)); (first | refine any_takeg 22 rfl (by kernel_rfl) (by kernel_rfl) (by kernel_rfl) rfl rfl rfl rfl rfl rfl qtg ?_ | (refine any_takeg 22 rfl (by kernel_rfl) (by kernel_rfl) (by kernel_rfl) rfl rfl rfl rfl rfl rfl (fun h => ?_) ?_; rotate_left)); (first | refine any_takeg 23 rfl (by kernel_rfl) (by kernel_rfl) (by kernel_rfl) rfl rfl rfl rfl rfl rfl qtg ?_ | (refine any_takeg 23 rfl (by kernel_rfl) (by kernel_rfl) (by kernel_rfl) rfl rfl rfl rfl rfl rfl (fun h => ?_) ?_; rotate_left)); (refine aO 21 rfl (ch := [])  (pst_callgv rfl rfl rfl rfl rfl rfl (fun _ => size_c _ h1 h2) (fun h => ⟨h, trivial⟩) rfl rfl rfl ?_)); (refine aO 24 rfl (ch := [])  (pst_callgv rfl rfl rfl rfl rfl rfl (fun h => size_c _ (by simp at h; omega) (by simp at h; omega)) (fun h => ⟨h, trivial⟩) rfl rfl rfl ?_)); (refine aO 25 rfl (ch := [])  (pst_callgv rfl rfl rfl rfl rfl rfl (fun h => commonI_c _ _ (by omega) (by omega) (by omega) (by simp at h; omega)) (fun h => ⟨h, h, trivial⟩) rfl rfl rfl ?_)); (first | refine any_takeg 26 rfl (by kernel_rfl) (by kernel_rfl) (by kernel_rfl) rfl rfl rfl rfl rfl rfl qtg ?_ | (refine any_takeg 26 rfl (by kernel_rfl) (by kernel_rfl) (by kernel_rfl) rfl rfl rfl rfl rfl rfl (fun h => ?_) ?_; rotate_left)); (first | refine aT 27 ?_ | refine aT2 27 ?_ | (refine aC 27 ?_ ?_; rotate_left)); (first | refine aT 28 ?_ | refine aT2 28 ?_ | (refine aC 28 ?_ ?_; rotate_left)); (refine any_done (by kernel_rfl) ?_)
  repeat' (first | ((with_reducible (show POps _ _ _ _ (_ :: _) _ _)); (first | refine pop_read rfl rfl rfl rfl trivial ?_ | refine pop_guard rfl rfl rfl rfl rfl qgd ?_ | refine pop_new rfl rfl rfl rfl trivial ?_ | refine pop_store rfl rfl rfl Nat.zero_lt_one ?_ | refine pop_read rfl rfl rfl rfl qrd ?_ | refine pop_read2 rfl rfl rfl rfl trivial ?_ | refine pop_store rfl rfl rfl qst ?_ | fail)) | refine pnil ?_ | refine kround_exit ?_ | refine kround_ret ?_ | refine kround_next ?_ | refine kseq_normal ?_ | refine pseq ?_ | refine pregion ?_ | refine pret ?_ | refine kseq_ret ?_ | refine pskip ?_ | refine pblock ?_ | refine pexit ?_ | refine kseq_exit ?_ | refine kblock_hit rfl ?_ | refine kblock_miss rfl ?_ | refine kblock_ret ?_ | refine kblock_normal ?_ | refine kloop_ret ?_ | refine kloop_exit ?_ | refine kcut_ret ?_ | refine kcut_exit ?_ | refine pcond_t rfl ?_ | refine pcond_f rfl ?_ | (with_reducible (show POps _ _ _ _ _ _ _); simp only [List.append_eq, List.cons_append, List.nil_append]))
  refine kretv rfl ⟨trivial, trivial⟩ rfl (eqB ?_)
  rw [Bool.eq_iff_iff]
  have hg : Int.gcd (n.natAbs : Int) (d.natAbs : Int) = Int.gcd n d := by simp [Int.gcd]
  rw [hg]
  simp [okR]
  omega
end Go.Proofs.YtcefhgomkehokaaGreat
namespace Go.Proofs.YtcefhgomkehokaaGreat
theorem mode2_c (m : Int) : PureC G.P 89 [vi m] (fun r => r = vb (modeB m)) := by
  refine pure_of (G := G.toPg) (fn := Tryz.f89) Tryz.func89 rfl rfl rfl ?_; intro Γ hk
  repeat' (first | refine gg ?_ | exact trivial | with_reducible refine wA ?_ ?_ | refine Y2.mk ?_ ?_ | refine gh ?_ | exact qq | fail)
  refine kretv rfl ⟨trivial, trivial⟩ rfl (eqB ?_)
  unfold modeB
  rw [Bool.eq_iff_iff]; simp
theorem isUnit18_c (m h d : Int) : PureC G.P 85 [.agg 3 (nthP [vi m, vi h, vi d])] (fun r => r = vb (unitS m h d)) := by
  refine pure_of (G := G.toPg) (fn := Tryz.f85) Tryz.func85 rfl rfl rfl ?_; intro Γ hk
  repeat' (first | refine gg ?_ | exact trivial | with_reducible refine wA ?_ ?_ | refine Y2.mk ?_ ?_ | refine gh ?_ | exact qq | fail)
  refine kretv rfl ⟨trivial, trivial⟩ rfl (eqB ?_)
  unfold unitS
  rw [Bool.eq_iff_iff]; simp; omega
theorem isDecimal_c (n d : Int) (h1 : -9223372036854775808 ≤ n) (h2 : n ≤ 9223372036854775807) : PureC G.P 116 [vr n d] (fun r => r = vb (decS n d)) := by
  have c1 := ref1Valid_c n d h1 h2
  have hne : ((bif okR n d then decide (0 ≤ n) else false) == true) = true → d ≠ 0 := fun h => by
    cases ho : okR n d
    · rw [ho] at h; cases h
    · have := okR_bd ho; omega
  refine pure_of (G := G.toPg) (fn := Tryz.f116) Tryz.func116 rfl rfl rfl ?_; intro Γ hk
  repeat' (first | refine gg ?_ | exact trivial | with_reducible refine wA ?_ ?_ | refine Y2.mk ?_ ?_ | exact fun h => ⟨h, hne h⟩ | refine zz c1 ?_ | refine gh ?_ | exact qq | fail)
  refine kretv rfl ⟨trivial, trivial⟩ rfl (eqB ?_)
  unfold decS
  have e : (Int.tmod 1000000 d == 0) = decide (Int.tmod 1000000 d = 0) := by rw [Bool.eq_iff_iff]; simp
  rw [e]
  cases okR n d <;> cases decide (0 ≤ n) <;> cases decide (Int.tmod 1000000 d = 0) <;> rfl
set_option maxHeartbeats 2000000 in
theorem kids18_c (op : Int) : PureC G.P 130 [vi op] (fun r => r = vi (kidsN op)) := by
  refine pure_of (G := G.toPg) (fn := Tryz.f130) Tryz.func130 rfl rfl rfl ?_; intro Γ hk
  by_cases hr : 1 ≤ op ∧ op ≤ 21
  · obtain rfl | rfl | rfl | rfl | rfl | rfl | rfl | rfl | rfl | rfl | rfl | rfl | rfl | rfl | rfl | rfl | rfl | rfl | rfl | rfl | rfl : op = 1 ∨ op = 2 ∨ op = 3 ∨ op = 4 ∨ op = 5 ∨ op = 6 ∨ op = 7 ∨ op = 8 ∨ op = 9 ∨ op = 10 ∨ op = 11 ∨ op = 12 ∨ op = 13 ∨ op = 14 ∨ op = 15 ∨ op = 16 ∨ op = 17 ∨ op = 18 ∨ op = 19 ∨ op = 20 ∨ op = 21 := by omega
    all_goals
      repeat' (first | refine gg ?_ | exact trivial | with_reducible refine wA ?_ ?_ | refine Y2.mk ?_ ?_ | refine gh ?_ | exact qq | fail)
      exact kretv rfl ⟨trivial, trivial⟩ rfl rfl
  · have e : kidsN op = -1 := by
      unfold kidsN
      rw [if_neg (by omega), if_neg (by omega), if_neg (by omega), if_neg (by omega)]
    repeat' (first | refine gg ?_ | exact trivial | with_reducible refine wA ?_ ?_ | refine Y2.mk ?_ ?_ | (refine pcond_n rfl (by simp; omega) ?_) | refine gh ?_ | exact qq | fail)
    exact kretv rfl ⟨trivial, trivial⟩ rfl (eqI e.symm)
set_option maxHeartbeats 8000000 in
theorem own_c (e : Ex) (hv : -9223372036854775808 ≤ e.vn ∧ e.vn ≤ 9223372036854775807) (hs : e.nm.size ≤ 9223372036854775807) : PureC G.P 131 [vX e] (fun r => r = vb (fieldS e)) := by
  have c1 := isDecimal_c e.vn e.vd hv.1 hv.2
  have c3 := isUnit18_c e.um e.uh e.ud
  have c4 := isName17_c e.nm hs
  have c5 := mode2_c e.mode
  refine pure_of (G := G.toPg) (fn := Tryz.f131) Tryz.func131 rfl rfl rfl ?_; intro Γ hk
  by_cases hr : e.op = 1 ∨ e.op = 2 ∨ e.op = 3 ∨ e.op = 4 ∨ e.op = 19 ∨ e.op = 20 ∨ e.op = 21
  · rcases hr with h | h | h | h | h | h | h
    all_goals
      repeat' (first | refine gg ?_ | exact trivial | with_reducible refine wA ?_ ?_ | refine Y2.mk ?_ ?_ | refine xs_start (id := 1) true [.take 0, .take 1, .take 2, .take 3, .take 4, .take 5, .take 6, .take 7, .take 8, .take 9, .take 10, .take 11, .take 12, .take 13, .take 14, .take 15, .take 16, .take 17, .take 18, .take 19, .take 20, .take 21] 0 rfl rfl (by kernel_rfl) ?_ | refine xs_start (id := 4) true [.take 0, .take 1, .take 3, .take 4, .one 2, .one 5, .take 6, .take 7] 0 rfl rfl (by kernel_rfl) ?_ | refine xs_start (id := 11) true [.take 0, .take 1, .take 9, .take 10, .take 12, .take 13, .one 2, .take 3, .take 4, .take 5, .take 6, .take 7, .take 8, .one 11, .one 14, .take 15, .take 16, .take 17] 0 rfl rfl (by kernel_rfl) ?_ | refine xs_start (id := 14) true [.take 0, .take 1, .take 3, .take 4, .take 5, .one 2, .take 6, .take 7, .take 8, .take 9, .take 10, .take 11, .take 12] 0 rfl rfl (by kernel_rfl) ?_ | (refine pcond_y rfl (by rw [h]; rfl) ?_) | (refine pcond_n rfl (by rw [h]; rfl) ?_) | refine zz c1 ?_ | refine zz c3 ?_ | refine zz c4 ?_ | refine zz c5 ?_ | refine gh ?_ | exact qq | fail)
      refine kretv rfl ⟨trivial, trivial⟩ rfl (eqB ?_)
      simp [fieldS, h, bqd, Bool.and_assoc] <;> ac_rfl
  · repeat' (first | refine gg ?_ | exact trivial | with_reducible refine wA ?_ ?_ | refine Y2.mk ?_ ?_ | refine xs_start (id := 1) true [.take 0, .take 1, .take 2, .take 3, .take 4, .take 5, .take 6, .take 7, .take 8, .take 9, .take 10, .take 11, .take 12, .take 13, .take 14, .take 15, .take 16, .take 17, .take 18, .take 19, .take 20, .take 21] 0 rfl rfl (by kernel_rfl) ?_ | refine xs_start (id := 4) true [.take 0, .take 1, .take 3, .take 4, .one 2, .one 5, .take 6, .take 7] 0 rfl rfl (by kernel_rfl) ?_ | refine xs_start (id := 11) true [.take 0, .take 1, .take 9, .take 10, .take 12, .take 13, .one 2, .take 3, .take 4, .take 5, .take 6, .take 7, .take 8, .one 11, .one 14, .take 15, .take 16, .take 17] 0 rfl rfl (by kernel_rfl) ?_ | refine xs_start (id := 14) true [.take 0, .take 1, .take 3, .take 4, .take 5, .one 2, .take 6, .take 7, .take 8, .take 9, .take 10, .take 11, .take 12] 0 rfl rfl (by kernel_rfl) ?_ | (refine pcond_n rfl (by simp; omega) ?_) | refine gh ?_ | exact qq | fail)
    refine kretv rfl ⟨trivial, trivial⟩ rfl (eqB ?_)
    have e1 : ¬ e.op = 1 := by omega
    have e2 : ¬ e.op = 2 := by omega
    have e3 : ¬ e.op = 3 := by omega
    have e4 : ¬ e.op = 4 := by omega
    have e5 : ¬ e.op = 19 := by omega
    have e6 : ¬ e.op = 20 := by omega
    have e7 : ¬ e.op = 21 := by omega
    simp [fieldS, e1, e2, e3, e4, e5, e6, e7, bqd, Bool.and_assoc] <;> ac_rfl
theorem peqK18 (e : Ex) : PEq (.vsl e.nk 10 e.kc) (.vsl e.nk 10 (tF cX e.kf)) := peq_vsl rfl fun i hi j hj => by rw [kc_eq (by omega)]
abbrev rX18 (e : Ex) : Row := ⟨.own, true, 1, 10, fun _ => nthP [vi e.op, vi e.vn, vi e.vd, vi e.um, vi e.uh, vi e.ud, vs e.nm, vi e.cnt, vi e.mode, .vsl e.nk 10 (tF cX e.kf)]⟩
theorem rX18_cl (e : Ex) : rowCl (rX18 e) := fun i _ j _ => clL_nth _ j ⟨trivial, trivial, trivial, trivial, trivial, trivial, trivial, trivial, trivial, trivial, trivial⟩
theorem nb18_t {b : Bool} (h : (!b) = true) : b = false := by cases b; rfl; cases h
theorem nb18_f {b : Bool} (h : (!b) = false) : b = true := by cases b; cases h; rfl
set_option maxHeartbeats 4000000 in
theorem within_c : ∀ (n : Nat) (e : Ex), n ≤ 1000 → Bd e → PureC G.P 117 [vX e, vi n] (fun r => r = vb (validS n e))
  | 0, e, _, hb => by
    have c1 := kids18_c e.op
    have c2 := own_c e hb.v hb.s
    refine pure_of (G := G.toPg) (fn := Tryz.f117) Tryz.func117 rfl rfl rfl ?_; intro Γ hk
    repeat' (first | refine gg ?_ | exact trivial | with_reducible refine wA ?_ ?_ | refine Y2.mk ?_ ?_ | refine xs_start (id := 1) true [.take 0, .take 1, .take 2, .take 3, .take 4, .take 5, .take 6, .take 7, .one 8, .take 9, .take 10, .take 11, .take 12, .one 13, .take 14, .take 15] 0 rfl rfl (by kernel_rfl) ?_ | refine zz c1 ?_ | refine zz c2 ?_ | refine gh ?_ | exact qq | fail)
    exact kretv rfl ⟨trivial, trivial⟩ rfl rfl
  | n + 1, e, hn, hb => by
    have c1 := kids18_c e.op
    have c2 := own_c e hb.v hb.s
    have hw : IntKind.i64.wrap (((n + 1 : Nat) : Int) - 1) = n := by rw [w64 (by omega) (by omega)]; omega
    have c3 : ∀ i, i < e.nk → PureC G.P 117 [vX (e.kf i), vi (IntKind.i64.wrap (((n + 1 : Nat) : Int) - 1))] (fun r => r = vb (validS n (e.kf i))) := fun i hi => by
      rw [hw]; exact within_c n (e.kf i) (by omega) (hb.k hi)
    have hk3 := kidsN_le e.op
    refine pure_of (G := G.toPg) (fn := Tryz.f117) Tryz.func117 rfl rfl rfl ?_; intro Γ hk
    repeat' (first | refine gg ?_ | exact trivial | with_reducible refine wA ?_ ?_ | refine Y2.mk ?_ ?_ | refine xs_start (id := 1) true [.take 0, .take 1, .take 2, .take 3, .take 4, .take 5, .take 6, .take 7, .one 8, .take 9, .take 10, .take 11, .take 12, .one 13, .take 14, .take 15] 0 rfl rfl (by kernel_rfl) ?_ | refine zz c1 ?_ | refine zz c2 ?_ | refine gh ?_ | exact qq | fail)
    refine pcond (b := !(decide ((e.nk : Int) = kidsN e.op) && fieldS e)) ?_ ?_ ?_
    · refine eqB ?_
      rw [decide_eq_false (show ¬ (((n + 1 : Nat) : Int) < 1) by omega), show ((e.nk : Int) != kidsN e.op) = !decide ((e.nk : Int) = kidsN e.op) from by rw [← bqd]; rfl]
      cases decide ((e.nk : Int) = kidsN e.op) <;> cases fieldS e <;> rfl
    · intro h
      repeat' (first | refine gg ?_ | exact trivial | with_reducible refine wA ?_ ?_ | refine Y2.mk ?_ ?_ | refine gh ?_ | exact qq | fail)
      refine kretv rfl ⟨trivial, trivial⟩ rfl (eqB ?_)
      rw [validS]
      revert h
      cases decide ((e.nk : Int) = kidsN e.op) <;> cases fieldS e <;> simp
    · intro h
      have h1 : (e.nk : Int) = kidsN e.op ∧ fieldS e = true := by
        revert h
        by_cases hn : (e.nk : Int) = kidsN e.op <;> cases fieldS e <;> simp [hn]
      obtain ⟨h1, h2⟩ := h1
      repeat' (first | refine gg ?_ | exact trivial | with_reducible refine wA ?_ ?_ | refine Y2.mk ?_ ?_ | refine gh ?_ | exact qq | fail)
      refine pcan (st' := ⟨[(1, vi ((n + 1 : Nat) : Int)), (2, .ptr 0 0 0), (5, vi ((0 : Nat) : Int))], [rX18 e]⟩) (can_rowsv [0] (k0_sel hk rfl) rfl (.cons rfl (var_eq ⟨PEq.refl _, PEq.refl _, PEq.refl _, PEq.refl _, PEq.refl _, PEq.refl _, PEq.refl _, PEq.refl _, PEq.refl _, peqK18 e, trivial⟩) .nil) tmq) ?_
      refine ploop (fun q st => ∃ i : Nat, i ≤ e.nk ∧ (∀ j, j < i → validS n (e.kf j) = true) ∧ q = e.nk - i ∧ st = ⟨[(1, vi ((n + 1 : Nat) : Int)), (2, .ptr 0 0 0), (5, vi i)], [rX18 e]⟩) e.nk ⟨0, by omega, fun j hj => by omega, by omega, rfl⟩ ?_
      rintro _ _ ⟨i, hi, hv, rfl, rfl⟩
      repeat' (first | refine gg ?_ | exact trivial | with_reducible refine wA ?_ ?_ | refine Y2.mk ?_ ?_ | refine gh ?_ | exact qq | fail)
      refine pcond rfl ?_ ?_ <;> intro hc <;> simp at hc
      · have c4 := c3 i hc
        repeat' (first | refine gg ?_ | exact trivial | with_reducible refine wA ?_ ?_ | refine Y2.mk ?_ ?_ | refine zz c4 ?_ | refine gh ?_ | exact qq | fail)
        refine pcond rfl ?_ ?_ <;> intro hc2
        · have hf : validS n (e.kf i) = false := by simpa using hc2
          repeat' (first | refine gg ?_ | exact trivial | with_reducible refine wA ?_ ?_ | refine Y2.mk ?_ ?_ | refine gh ?_ | exact qq | fail)
          refine kretv rfl ⟨trivial, trivial⟩ rfl (eqB ?_)
          rw [validS, allK_no hc hf]; simp
        · have hf : validS n (e.kf i) = true := by simpa using hc2
          repeat' (first | refine gg ?_ | exact trivial | with_reducible refine wA ?_ ?_ | refine Y2.mk ?_ ?_ | refine gh ?_ | exact qq | fail)
          rw [show IntKind.i64.wrap ((i : Int) + 1) = ((i + 1 : Nat) : Int) from w64 (by omega) (by omega)]
          exact kloop_next (st' := ⟨[(1, vi ((n + 1 : Nat) : Int)), (2, .ptr 0 0 0), (5, vi ((i + 1 : Nat) : Int))], [rX18 e]⟩) (e.nk - (i + 1)) (can_rowsv [0] (k0_sel hk rfl) rfl (.cons rfl (RowEq.cl (rX18_cl e)) .nil) tmq) (by omega) ⟨i + 1, by omega, fun j hj => by
            by_cases e : j = i
            · subst e; exact hf
            · exact hv j (by omega), rfl, rfl⟩
      · repeat' (first | refine gg ?_ | exact trivial | with_reducible refine wA ?_ ?_ | refine Y2.mk ?_ ?_ | refine gh ?_ | exact qq | fail)
        refine kretv rfl ⟨trivial, trivial⟩ rfl (eqB ?_)
        rw [validS, decide_eq_true h1, h2, allK_iff.2 fun j hj => hv j (by omega)]; rfl
theorem validExpr18_c (e : Ex) (hb : Bd e) : PureC G.P 88 [vX e] (fun r => r = vb (validS 32 e)) := by
  have c1 := within_c 32 e (by omega) hb
  refine pure_of (G := G.toPg) (fn := Tryz.f88) Tryz.func88 rfl rfl rfl ?_; intro Γ hk
  repeat' (first | refine gg ?_ | exact trivial | with_reducible refine wA ?_ ?_ | refine Y2.mk ?_ ?_ | refine zz c1 ?_ | refine gh ?_ | exact qq | fail)
  exact kretv rfl ⟨trivial, trivial⟩ rfl rfl
end Go.Proofs.YtcefhgomkehokaaGreat
namespace Go.Proofs.YtcefhgomkehokaaGreat
theorem inDays_c (n : Int) : PureC G.P 48 [vi n] (fun r => r = vb (dayS n)) := by
  refine pure_of (G := G.toPg) (fn := Tryz.f48) Tryz.func48 rfl rfl rfl ?_; intro Γ hk
  repeat' (first | refine gg ?_ | exact trivial | with_reducible refine wA ?_ ?_ | refine Y2.mk ?_ ?_ | refine gh ?_ | exact qq | fail)
  refine kretv rfl ⟨trivial, trivial⟩ rfl (eqB ?_)
  unfold dayS
  rw [Bool.eq_iff_iff]; simp
theorem isStep18_c (n d : Int) (h1 : -9223372036854775808 ≤ n) (h2 : n ≤ 9223372036854775807) : PureC G.P 90 [vr n d] (fun r => r = vb (okR n d && (decide (0 < n) && decide (Int.tmod 100 d = 0)))) := by
  have c1 := ref1Valid_c n d h1 h2
  have hne : ((bif okR n d then decide (0 < n) else false) == true) = true → d ≠ 0 := fun h => by
    cases ho : okR n d
    · rw [ho] at h; cases h
    · have := okR_bd ho; omega
  refine pure_of (G := G.toPg) (fn := Tryz.f90) Tryz.func90 rfl rfl rfl ?_; intro Γ hk
  repeat' (first | refine gg ?_ | exact trivial | with_reducible refine wA ?_ ?_ | refine Y2.mk ?_ ?_ | exact fun h => ⟨h, hne h⟩ | refine zz c1 ?_ | refine gh ?_ | exact qq | fail)
  refine kretv rfl ⟨trivial, trivial⟩ rfl (eqB ?_)
  have e : (Int.tmod 100 d == 0) = decide (Int.tmod 100 d = 0) := by rw [Bool.eq_iff_iff]; simp
  rw [e]
  cases okR n d <;> cases decide (0 < n) <;> cases decide (Int.tmod 100 d = 0) <;> rfl
abbrev vX0 : PV := .agg 10 (nthP [vi 0, vi 0, vi 0, vi 0, vi 0, vi 0, vs ⟨#[]⟩, vi 0, vi 0, .val (.slice none 0 0)])
set_option maxHeartbeats 4000000 in
theorem same0_c (e : Ex) : PureC G.P 86 [vX e, vX0] (fun r => r = vb (zeroX e)) := by
  refine pure_of (G := G.toPg) (fn := Tryz.f86) Tryz.func86 rfl rfl rfl ?_; intro Γ hk
  repeat' (first | refine gg ?_ | exact trivial | with_reducible refine wA ?_ ?_ | refine Y2.mk ?_ ?_ | refine gh ?_ | exact qq | fail)
  refine pcond (b := !(zeroX e)) ?_ ?_ ?_
  · refine eqB ?_
    have hb : ∀ a b : Int, (a != b) = !decide (a = b) := fun a b => by rw [← bqd]; rfl
    simp [zeroX, hb, bqd, Bool.or_assoc]
  · intro h
    have h := nb18_t h
    repeat' (first | refine gg ?_ | exact trivial | with_reducible refine wA ?_ ?_ | refine Y2.mk ?_ ?_ | refine gh ?_ | exact qq | fail)
    exact kretv rfl ⟨trivial, trivial⟩ rfl (eqB h.symm)
  · intro h
    have h := nb18_f h
    have h0 : e.nk = 0 := by
      have := h
      simp [zeroX] at this
      exact this.2.2.2.2.2.2
    repeat' (first | refine gg ?_ | exact trivial | with_reducible refine wA ?_ ?_ | refine Y2.mk ?_ ?_ | refine gh ?_ | exact qq | fail)
    refine ploopN 1 ?_
    repeat' (first | refine gg ?_ | exact trivial | with_reducible refine wA ?_ ?_ | refine Y2.mk ?_ ?_ | refine gh ?_ | exact qq | fail)
    refine pcond_n rfl (by simp [h0]) ?_
    repeat' (first | refine gg ?_ | exact trivial | with_reducible refine wA ?_ ?_ | refine Y2.mk ?_ ?_ | refine gh ?_ | exact qq | fail)
    exact kretv rfl ⟨trivial, trivial⟩ rfl (eqB h.symm)
set_option maxHeartbeats 4000000 in
theorem entries18_c (n : Nat) (f : Nat → En) (hn : n ≤ 1000000) (hb : ∀ i, i < n → -9223372036854775808 ≤ (f i).2.1 ∧ (f i).2.1 ≤ 9223372036854775807) : PureC G.P 87 [.vsl n 3 (tF cN3 f)] (fun r => r = vb (entsS n f)) := by
  refine pure_of (G := G.toPg) (fn := Tryz.f87) Tryz.func87 rfl rfl rfl ?_; intro Γ hk
  repeat' (first | refine gg ?_ | exact trivial | with_reducible refine wA ?_ ?_ | refine Y2.mk ?_ ?_ | refine gh ?_ | exact qq | fail)
  refine pcond (b := !decide (1 ≤ n ∧ n ≤ 64)) ?_ ?_ ?_
  · refine eqB ?_
    rw [Bool.eq_iff_iff]; simp; omega
  · intro h
    repeat' (first | refine gg ?_ | exact trivial | with_reducible refine wA ?_ ?_ | refine Y2.mk ?_ ?_ | refine gh ?_ | exact qq | fail)
    refine kretv rfl ⟨trivial, trivial⟩ rfl (eqB ?_)
    unfold entsS
    have : decide (1 ≤ n ∧ n ≤ 64) = false := nb18_t h
    rw [this]; rfl
  · intro h
    have h1 : decide (1 ≤ n ∧ n ≤ 64) = true := nb18_f h
    repeat' (first | refine gg ?_ | exact trivial | with_reducible refine wA ?_ ?_ | refine Y2.mk ?_ ?_ | refine gh ?_ | exact qq | fail)
    refine pcan (st' := ⟨[(0, .vsl n 3 (tF cN3 f)), (3, vi ((0 : Nat) : Int))], []⟩) (can_rowsv [] (k0_sel hk rfl) rfl .nil tmq) ?_
    refine ploop (fun q st => ∃ i : Nat, i ≤ n ∧ (∀ j, j < i → 0 ≤ (f j).1 ∧ (decide ((if j = 0 then -1 else (f (j - 1)).1) < (f j).1 ∧ (f j).1 ≤ 1000000) && decS (f j).2.1 (f j).2.2) = true) ∧ q = n - i ∧ st = ⟨[(0, .vsl n 3 (tF cN3 f)), (3, vi i)], []⟩) n ⟨0, by omega, fun j hj => by omega, by omega, rfl⟩ ?_
    rintro _ _ ⟨i, hi, hv, rfl, rfl⟩
    have hw1 : IntKind.i64.wrap ((i : Int) - 1) = (i : Int) - 1 := w64 (by omega) (by omega)
    repeat' (first | refine gg ?_ | exact trivial | with_reducible refine wA ?_ ?_ | refine Y2.mk ?_ ?_ | refine gh ?_ | exact qq | fail)
    refine pcond rfl ?_ ?_ <;> intro hc <;> simp at hc
    · have c1 := isDecimal_c (f i).2.1 (f i).2.2 (hb i hc).1 (hb i hc).2
      repeat' (first | refine gg ?_ | exact trivial | with_reducible refine wA ?_ ?_ | refine Y2.mk ?_ ?_ | refine xs_start (id := 6) true [.take 0, .take 1, .take 2, .take 3, .take 4, .take 5, .take 6, .take 7, .take 8, .take 9, .take 10, .take 11, .take 12, .take 13, .take 14, .take 15, .take 16, .take 17, .take 18, .take 19, .one 20, .take 21, .take 22, .take 23, .take 24, .take 25, .take 26, .take 27, .take 28, .take 29, .take 30, .take 31, .take 32, .take 33, .take 34, .take 35, .take 36, .take 37, .take 38, .take 39, .take 40] 0 rfl rfl (by kernel_rfl) ?_ | refine zz c1 ?_ | refine gh ?_ | exact qq | fail)
      generalize hbe : (if i = 0 then -1 else (f (i - 1)).1) = be
      have hpv : (if i = 0 then -1 else (f (i - 1)).1) = be := hbe
      have hbe0 : -1 ≤ be := by
        by_cases e : i = 0
        · rw [← hbe, if_pos e]; omega
        · rw [← hbe, if_neg e]; have := (hv (i - 1) (by omega)).1; omega
      refine pcond (b := !(decide (be < (f i).1 ∧ (f i).1 ≤ 1000000) && decS (f i).2.1 (f i).2.2)) ?_ ?_ ?_
      · refine eqB ?_
        rw [hw1]
        rw [show ((i : Int)).toNat = i by omega, show ((i : Int) - 1).toNat = i - 1 by omega]
        by_cases e : i = 0
        · have e2 : be = -1 := by rw [← hbe, if_pos e]
          rw [e2, decide_eq_false (show ¬ (0 : Int) < (i : Int) by omega)]
          by_cases q1 : (f i).1 < 0 <;> by_cases q2 : (1000000 : Int) < (f i).1 <;> cases decS (f i).2.1 (f i).2.2 <;> simp [q1, q2] <;> omega
        · have e2 : (f (i - 1)).1 = be := by rw [← hbe, if_neg e]
          have e3 := (hv (i - 1) (by omega)).1
          rw [e2, decide_eq_true (show (0 : Int) < (i : Int) by omega)]
          by_cases q1 : (f i).1 < 0 <;> by_cases q2 : (1000000 : Int) < (f i).1 <;> by_cases q3 : (f i).1 ≤ be <;> cases decS (f i).2.1 (f i).2.2 <;> simp [q1, q2, q3] <;> omega
      · intro h2
        repeat' (first | refine gg ?_ | exact trivial | with_reducible refine wA ?_ ?_ | refine Y2.mk ?_ ?_ | refine gh ?_ | exact qq | fail)
        refine kretv rfl ⟨trivial, trivial⟩ rfl (eqB ?_)
        have : (decide ((if i = 0 then -1 else (f (i - 1)).1) < (f i).1 ∧ (f i).1 ≤ 1000000) && decS (f i).2.1 (f i).2.2) = false := by rw [hbe]; exact nb18_t h2
        unfold entsS
        rw [allK_no hc this]; simp
      · intro h2
        have hg : (decide (be < (f i).1 ∧ (f i).1 ≤ 1000000) && decS (f i).2.1 (f i).2.2) = true := nb18_f h2
        repeat' (first | refine gg ?_ | exact trivial | with_reducible refine wA ?_ ?_ | refine Y2.mk ?_ ?_ | refine gh ?_ | exact qq | fail)
        rw [show IntKind.i64.wrap ((i : Int) + 1) = ((i + 1 : Nat) : Int) from w64 (by omega) (by omega)]
        exact kloop_next (st' := ⟨[(0, .vsl n 3 (tF cN3 f)), (3, vi ((i + 1 : Nat) : Int))], []⟩) (n - (i + 1)) (can_rowsv [] (k0_sel hk rfl) rfl .nil tmq) (by omega) ⟨i + 1, by omega, fun j hj => by
          by_cases e : j = i
          · subst e
            refine ⟨?_, by rw [hbe]; exact hg⟩
            simp only [Bool.and_eq_true, decide_eq_true_eq] at hg
            omega
          · exact hv j (by omega), rfl, rfl⟩
    · repeat' (first | refine gg ?_ | exact trivial | with_reducible refine wA ?_ ?_ | refine Y2.mk ?_ ?_ | refine gh ?_ | exact qq | fail)
      refine kretv rfl ⟨trivial, trivial⟩ rfl (eqB ?_)
      unfold entsS
      rw [h1, allK_iff.2 fun j hj => (hv j (by omega)).2]; rfl
theorem tz18_eq (t : Ty) : tz t = (!t.b && (decide (t.m = 0) && (decide (t.h = 0) && decide (t.d = 0)))) := by
  obtain ⟨b, m, h, d⟩ := t
  unfold tz
  rw [Bool.eq_iff_iff]; simp
theorem step18_eq (n d : Int) : stepS n d = (okR n d && (decide (0 < n) && decide (Int.tmod 100 d = 0))) := by
  unfold stepS decS
  rw [Bool.eq_iff_iff]
  simp only [Bool.and_eq_true, decide_eq_true_eq]
  constructor
  · rintro ⟨⟨h1, _, _⟩, h2, h3⟩; exact ⟨h1, h2, h3⟩
  · rintro ⟨h1, h2, h3⟩
    refine ⟨⟨h1, by omega, ?_⟩, h2, h3⟩
    have hd : d ∣ 100 := Int.dvd_of_tmod_eq_zero h3
    exact Int.tmod_eq_zero_of_dvd (Int.dvd_trans hd ⟨10000, rfl⟩)
end Go.Proofs.YtcefhgomkehokaaGreat
namespace Go.Proofs.YtcefhgomkehokaaGreat
theorem typ18_eq (t : Ty) : typS t = (unitS t.m t.h t.d && (!t.b || (decide (t.m = 0) && (decide (t.h = 0) && decide (t.d = 0))))) := by
  unfold typS
  cases t.b
  · simp
  · rw [if_pos rfl, Bool.eq_iff_iff]
    simp [unitS]
    omega
set_option maxHeartbeats 8000000 in
theorem vd1 (d : Df) (hb : BdD d) (h : d.kind = 1) : PureC G.P 73 [.agg 21 (nthP (cD d))] (fun r => r = vb (nameS d.nm && defS d)) := by
  have c_u := isUnit18_c d.ty.m d.ty.h d.ty.d
  have c_z := same0_c d.body
  have c_nm := isName17_c d.nm hb.nm
  refine pure_of (G := G.toPg) (fn := Tryz.f73) Tryz.func73 rfl rfl rfl ?_; intro Γ hk
  repeat' (first | refine gg ?_ | exact trivial | with_reducible refine wA ?_ ?_ | refine Y2.mk ?_ ?_ | refine xs_start (id := 2) true [.take 0, .take 1, .take 2, .take 3, .take 4, .take 5, .take 6, .take 7, .take 8, .take 9, .one 10, .take 11, .take 12, .take 13] 0 rfl rfl (by kernel_rfl) ?_ | refine xs_start (id := 10) true [.take 0, .take 1, .take 2, .take 3, .take 4, .take 5, .take 6, .take 7, .take 8, .take 10, .take 11, .one 9, .one 12, .take 13, .take 14, .take 15] 0 rfl rfl (by kernel_rfl) ?_ | refine xs_start (id := 12) true [.take 0, .take 1, .take 3, .take 4, .one 2, .one 5, .take 6, .take 7] 0 rfl rfl (by kernel_rfl) ?_ | refine xs_start (id := 14) true [.take 0, .take 1, .take 2, .take 3, .take 4, .take 5, .take 7, .take 8, .one 6, .one 9, .take 10, .take 11, .take 12] 0 rfl rfl (by kernel_rfl) ?_ | (refine pcond_y rfl (by rw [h]; rfl) ?_) | (refine pcond_n rfl (by rw [h]; rfl) ?_) | refine zz c_u ?_ | refine zz c_z ?_ | refine zz c_nm ?_ | refine gh ?_ | exact qq | fail)
  refine kretv rfl ⟨trivial, trivial⟩ rfl (eqB ?_)
  rw [show defS d = (typS d.ty && (decide (d.day = 0) && (decide (d.ne = 0) && (zeroX d.body && (decide (d.mode = 0) && decide (d.sn = 0 ∧ d.sd = 0)))))) from by simp [defS, h], typ18_eq d.ty]
  simp [bqd, Bool.and_assoc] <;> ac_rfl
set_option maxHeartbeats 8000000 in
theorem vd5 (d : Df) (hb : BdD d) (h : d.kind = 5) : PureC G.P 73 [.agg 21 (nthP (cD d))] (fun r => r = vb (nameS d.nm && defS d)) := by
  have c_u := isUnit18_c d.ty.m d.ty.h d.ty.d
  have c_z := same0_c d.body
  have c_nm := isName17_c d.nm hb.nm
  refine pure_of (G := G.toPg) (fn := Tryz.f73) Tryz.func73 rfl rfl rfl ?_; intro Γ hk
  repeat' (first | refine gg ?_ | exact trivial | with_reducible refine wA ?_ ?_ | refine Y2.mk ?_ ?_ | refine xs_start (id := 2) true [.take 0, .take 1, .take 2, .take 3, .take 4, .take 5, .take 6, .take 7, .take 8, .take 9, .one 10, .take 11, .take 12, .take 13] 0 rfl rfl (by kernel_rfl) ?_ | refine xs_start (id := 10) true [.take 0, .take 1, .take 2, .take 3, .take 4, .take 5, .take 6, .take 7, .take 8, .take 10, .take 11, .one 9, .one 12, .take 13, .take 14, .take 15] 0 rfl rfl (by kernel_rfl) ?_ | refine xs_start (id := 12) true [.take 0, .take 1, .take 3, .take 4, .one 2, .one 5, .take 6, .take 7] 0 rfl rfl (by kernel_rfl) ?_ | refine xs_start (id := 14) true [.take 0, .take 1, .take 2, .take 3, .take 4, .take 5, .take 7, .take 8, .one 6, .one 9, .take 10, .take 11, .take 12] 0 rfl rfl (by kernel_rfl) ?_ | (refine pcond_y rfl (by rw [h]; rfl) ?_) | (refine pcond_n rfl (by rw [h]; rfl) ?_) | refine zz c_u ?_ | refine zz c_z ?_ | refine zz c_nm ?_ | refine gh ?_ | exact qq | fail)
  refine kretv rfl ⟨trivial, trivial⟩ rfl (eqB ?_)
  rw [show defS d = ((typS d.ty && !d.ty.b) && (decide (d.day = 0) && (decide (d.ne = 0) && (zeroX d.body && (decide (d.mode = 0) && decide (d.sn = 0 ∧ d.sd = 0)))))) from by simp [defS, h], typ18_eq d.ty]
  simp [bqd, Bool.and_assoc] <;> ac_rfl
set_option maxHeartbeats 8000000 in
theorem vd2 (d : Df) (hb : BdD d) (h : d.kind = 2) : PureC G.P 73 [.agg 21 (nthP (cD d))] (fun r => r = vb (nameS d.nm && defS d)) := by
  have c_u := isUnit18_c d.ty.m d.ty.h d.ty.d
  have c_z := same0_c d.body
  have c_nm := isName17_c d.nm hb.nm
  have c_day := inDays_c d.day
  have c_en := entries18_c d.ne d.ef hb.ne hb.ef
  refine pure_of (G := G.toPg) (fn := Tryz.f73) Tryz.func73 rfl rfl rfl ?_; intro Γ hk
  repeat' (first | refine gg ?_ | exact trivial | with_reducible refine wA ?_ ?_ | refine Y2.mk ?_ ?_ | refine xs_start (id := 2) true [.take 0, .take 1, .take 2, .take 3, .take 4, .take 5, .take 6, .take 7, .take 8, .take 9, .one 10, .take 11, .take 12, .take 13] 0 rfl rfl (by kernel_rfl) ?_ | refine xs_start (id := 10) true [.take 0, .take 1, .take 2, .take 3, .take 4, .take 5, .take 6, .take 7, .take 8, .take 10, .take 11, .one 9, .one 12, .take 13, .take 14, .take 15] 0 rfl rfl (by kernel_rfl) ?_ | refine xs_start (id := 12) true [.take 0, .take 1, .take 3, .take 4, .one 2, .one 5, .take 6, .take 7] 0 rfl rfl (by kernel_rfl) ?_ | refine xs_start (id := 14) true [.take 0, .take 1, .take 2, .take 3, .take 4, .take 5, .take 7, .take 8, .one 6, .one 9, .take 10, .take 11, .take 12] 0 rfl rfl (by kernel_rfl) ?_ | (refine pcond_y rfl (by rw [h]; rfl) ?_) | (refine pcond_n rfl (by rw [h]; rfl) ?_) | refine zz c_u ?_ | refine zz c_z ?_ | refine zz c_nm ?_ | refine zz c_day ?_ | refine zz c_en ?_ | refine gh ?_ | exact qq | fail)
  refine kretv rfl ⟨trivial, trivial⟩ rfl (eqB ?_)
  rw [show defS d = ((typS d.ty && !d.ty.b) && (dayS d.day && (entsS d.ne d.ef && (zeroX d.body && (decide (d.mode = 0) && decide (d.sn = 0 ∧ d.sd = 0)))))) from by simp [defS, h], typ18_eq d.ty]
  simp [bqd, Bool.and_assoc] <;> ac_rfl
set_option maxHeartbeats 8000000 in
theorem vd3 (d : Df) (hb : BdD d) (h : d.kind = 3) : PureC G.P 73 [.agg 21 (nthP (cD d))] (fun r => r = vb (nameS d.nm && defS d)) := by
  have c_u := isUnit18_c d.ty.m d.ty.h d.ty.d
  have c_z := same0_c d.body
  have c_nm := isName17_c d.nm hb.nm
  have c_day := inDays_c d.day
  have c_x := validExpr18_c d.body hb.body
  refine pure_of (G := G.toPg) (fn := Tryz.f73) Tryz.func73 rfl rfl rfl ?_; intro Γ hk
  repeat' (first | refine gg ?_ | exact trivial | with_reducible refine wA ?_ ?_ | refine Y2.mk ?_ ?_ | refine xs_start (id := 2) true [.take 0, .take 1, .take 2, .take 3, .take 4, .take 5, .take 6, .take 7, .take 8, .take 9, .one 10, .take 11, .take 12, .take 13] 0 rfl rfl (by kernel_rfl) ?_ | refine xs_start (id := 10) true [.take 0, .take 1, .take 2, .take 3, .take 4, .take 5, .take 6, .take 7, .take 8, .take 10, .take 11, .one 9, .one 12, .take 13, .take 14, .take 15] 0 rfl rfl (by kernel_rfl) ?_ | refine xs_start (id := 12) true [.take 0, .take 1, .take 3, .take 4, .one 2, .one 5, .take 6, .take 7] 0 rfl rfl (by kernel_rfl) ?_ | refine xs_start (id := 14) true [.take 0, .take 1, .take 2, .take 3, .take 4, .take 5, .take 7, .take 8, .one 6, .one 9, .take 10, .take 11, .take 12] 0 rfl rfl (by kernel_rfl) ?_ | (refine pcond_y rfl (by rw [h]; rfl) ?_) | (refine pcond_n rfl (by rw [h]; rfl) ?_) | refine zz c_u ?_ | refine zz c_z ?_ | refine zz c_nm ?_ | refine zz c_day ?_ | refine zz c_x ?_ | refine gh ?_ | exact qq | fail)
  refine kretv rfl ⟨trivial, trivial⟩ rfl (eqB ?_)
  rw [show defS d = (typS d.ty && (dayS d.day && (decide (d.ne = 0) && (validS 32 d.body && (decide (d.mode = 0) && decide (d.sn = 0 ∧ d.sd = 0)))))) from by simp [defS, h], typ18_eq d.ty]
  simp [bqd, Bool.and_assoc] <;> ac_rfl
set_option maxHeartbeats 8000000 in
theorem vd4 (d : Df) (hb : BdD d) (h : d.kind = 4) : PureC G.P 73 [.agg 21 (nthP (cD d))] (fun r => r = vb (nameS d.nm && defS d)) := by
  have c_u := isUnit18_c d.ty.m d.ty.h d.ty.d
  have c_z := same0_c d.body
  have c_nm := isName17_c d.nm hb.nm
  have c_day := inDays_c d.day
  have c_x := validExpr18_c d.body hb.body
  have c_mo := mode2_c d.mode
  have c_st := isStep18_c d.sn d.sd hb.st.1 hb.st.2
  refine pure_of (G := G.toPg) (fn := Tryz.f73) Tryz.func73 rfl rfl rfl ?_; intro Γ hk
  repeat' (first | refine gg ?_ | exact trivial | with_reducible refine wA ?_ ?_ | refine Y2.mk ?_ ?_ | refine xs_start (id := 2) true [.take 0, .take 1, .take 2, .take 3, .take 4, .take 5, .take 6, .take 7, .take 8, .take 9, .one 10, .take 11, .take 12, .take 13] 0 rfl rfl (by kernel_rfl) ?_ | refine xs_start (id := 10) true [.take 0, .take 1, .take 2, .take 3, .take 4, .take 5, .take 6, .take 7, .take 8, .take 10, .take 11, .one 9, .one 12, .take 13, .take 14, .take 15] 0 rfl rfl (by kernel_rfl) ?_ | refine xs_start (id := 12) true [.take 0, .take 1, .take 3, .take 4, .one 2, .one 5, .take 6, .take 7] 0 rfl rfl (by kernel_rfl) ?_ | refine xs_start (id := 14) true [.take 0, .take 1, .take 2, .take 3, .take 4, .take 5, .take 7, .take 8, .one 6, .one 9, .take 10, .take 11, .take 12] 0 rfl rfl (by kernel_rfl) ?_ | (refine pcond_y rfl (by rw [h]; rfl) ?_) | (refine pcond_n rfl (by rw [h]; rfl) ?_) | refine zz c_u ?_ | refine zz c_z ?_ | refine zz c_nm ?_ | refine zz c_day ?_ | refine zz c_x ?_ | refine zz c_mo ?_ | refine zz c_st ?_ | refine gh ?_ | exact qq | fail)
  refine kretv rfl ⟨trivial, trivial⟩ rfl (eqB ?_)
  rw [show defS d = (tz d.ty && (dayS d.day && (decide (d.ne = 0) && (validS 32 d.body && (modeB d.mode && stepS d.sn d.sd))))) from by simp [defS, h], tz18_eq d.ty, step18_eq]
  simp [bqd, Bool.and_assoc] <;> ac_rfl
set_option maxHeartbeats 8000000 in
theorem vd0 (d : Df) (hb : BdD d) (e1 : ¬ d.kind = 1) (e2 : ¬ d.kind = 2) (e3 : ¬ d.kind = 3) (e4 : ¬ d.kind = 4) (e5 : ¬ d.kind = 5) : PureC G.P 73 [.agg 21 (nthP (cD d))] (fun r => r = vb (nameS d.nm && defS d)) := by
  have c_u := isUnit18_c d.ty.m d.ty.h d.ty.d
  have c_z := same0_c d.body
  refine pure_of (G := G.toPg) (fn := Tryz.f73) Tryz.func73 rfl rfl rfl ?_; intro Γ hk
  repeat' (first | refine gg ?_ | exact trivial | with_reducible refine wA ?_ ?_ | refine Y2.mk ?_ ?_ | refine xs_start (id := 2) true [.take 0, .take 1, .take 2, .take 3, .take 4, .take 5, .take 6, .take 7, .take 8, .take 9, .one 10, .take 11, .take 12, .take 13] 0 rfl rfl (by kernel_rfl) ?_ | refine xs_start (id := 10) true [.take 0, .take 1, .take 2, .take 3, .take 4, .take 5, .take 6, .take 7, .take 8, .take 10, .take 11, .one 9, .one 12, .take 13, .take 14, .take 15] 0 rfl rfl (by kernel_rfl) ?_ | refine xs_start (id := 12) true [.take 0, .take 1, .take 3, .take 4, .one 2, .one 5, .take 6, .take 7] 0 rfl rfl (by kernel_rfl) ?_ | refine xs_start (id := 14) true [.take 0, .take 1, .take 2, .take 3, .take 4, .take 5, .take 7, .take 8, .one 6, .one 9, .take 10, .take 11, .take 12] 0 rfl rfl (by kernel_rfl) ?_ | (refine pcond_n rfl (by simp; omega) ?_) | refine zz c_u ?_ | refine zz c_z ?_ | refine gh ?_ | exact qq | fail)
  refine kretv rfl ⟨trivial, trivial⟩ rfl (eqB ?_)
  simp [defS, e1, e2, e3, e4, e5]
theorem validDef18_c (d : Df) (hb : BdD d) : PureC G.P 73 [.agg 21 (nthP (cD d))] (fun r => r = vb (nameS d.nm && defS d)) := by
  by_cases e1 : d.kind = 1
  · exact vd1 d hb e1
  by_cases e2 : d.kind = 2
  · exact vd2 d hb e2
  by_cases e3 : d.kind = 3
  · exact vd3 d hb e3
  by_cases e4 : d.kind = 4
  · exact vd4 d hb e4
  by_cases e5 : d.kind = 5
  · exact vd5 d hb e5
  exact vd0 d hb e1 e2 e3 e4 e5
end Go.Proofs.YtcefhgomkehokaaGreat
namespace Go.Proofs.YtcefhgomkehokaaGreat
abbrev rAg18 (nm : ByteArray) (l : List Df) : Row := ⟨.own, true, 1, 2, fun _ => nthP [vs nm, vDs l]⟩
theorem valid18_c (nm : ByteArray) (l : List Df) (hs : nm.size ≤ 9223372036854775807) (hb : ∀ d, d ∈ l → BdD d) : PureC G.P 47 [vA nm l] (fun r => r = vb (agrS nm l)) := by
  have c1 := isName17_c nm hs
  have at_ : ∀ i, i < l.length → lF dD l i ∈ l := fun i hi => by
    unfold lF; rw [List.getD_eq_getElem?_getD, List.getElem?_eq_getElem hi]; exact List.getElem_mem _
  refine pure_of (G := G.toPg) (fn := Tryz.f47) Tryz.func47 rfl rfl rfl ?_; intro Γ hk
  repeat' (first | refine gg ?_ | exact trivial | with_reducible refine wA ?_ ?_ | refine Y2.mk ?_ ?_ | refine zz c1 ?_ | refine gh ?_ | exact qq | fail)
  refine pcond (b := !(nameS nm && decide (l.length ≤ 128))) ?_ ?_ ?_
  · refine eqB ?_
    show (bif !nameS nm then true else decide ((128 : Int) < (l.length : Int))) = _
    cases nameS nm
    · rfl
    · rw [Bool.eq_iff_iff]; simp; omega
  · intro h
    repeat' (first | refine gg ?_ | exact trivial | with_reducible refine wA ?_ ?_ | refine Y2.mk ?_ ?_ | refine gh ?_ | exact qq | fail)
    refine kretv rfl ⟨trivial, trivial⟩ rfl (eqB ?_)
    have := nb18_t h
    unfold agrS
    revert this
    cases nameS nm <;> cases decide (l.length ≤ 128) <;> simp
  · intro h
    have h2 := nb18_f h
    have h3 : nameS nm = true ∧ l.length ≤ 128 := by simpa using h2
    repeat' (first | refine gg ?_ | exact trivial | with_reducible refine wA ?_ ?_ | refine Y2.mk ?_ ?_ | refine gh ?_ | exact qq | fail)
    refine pcan (st' := ⟨[(1, .ptr 0 0 0), (3, vi ((0 : Nat) : Int))], [rAg18 nm l]⟩) (can_rowsv [0] (k0_sel hk rfl) rfl (.cons rfl rqq .nil) tmq) ?_
    refine ploop (fun q st => ∃ i : Nat, i ≤ l.length ∧ (∀ j, j < i → (nameS (lF dD l j).nm && defS (lF dD l j)) = true) ∧ q = l.length - i ∧ st = ⟨[(1, .ptr 0 0 0), (3, vi i)], [rAg18 nm l]⟩) l.length ⟨0, by omega, fun j hj => by omega, by omega, rfl⟩ ?_
    rintro _ _ ⟨i, hi, hv, rfl, rfl⟩
    repeat' (first | refine gg ?_ | exact trivial | with_reducible refine wA ?_ ?_ | refine Y2.mk ?_ ?_ | refine gh ?_ | exact qq | fail)
    refine pcond rfl ?_ ?_ <;> intro hc <;> simp at hc
    · have hbd := hb _ (at_ i hc)
      have c3 := validDef18_c (lF dD l i) hbd
      repeat' (first | refine gg ?_ | exact trivial | with_reducible refine wA ?_ ?_ | refine Y2.mk ?_ ?_ | refine zz c3 ?_ | refine gh ?_ | exact qq | fail)
      refine pcond (b := !(nameS (lF dD l i).nm && defS (lF dD l i))) ?_ ?_ ?_
      · exact eqB rfl
      · intro h4
        have h5 := nb18_t h4
        repeat' (first | refine gg ?_ | exact trivial | with_reducible refine wA ?_ ?_ | refine Y2.mk ?_ ?_ | refine gh ?_ | exact qq | fail)
        refine kretv rfl ⟨trivial, trivial⟩ rfl (eqB ?_)
        unfold agrS
        have : l.all (fun d => nameS d.nm && defS d) = false := by
          rw [List.all_eq_false]
          exact ⟨_, at_ i hc, by rw [h5]; simp⟩
        rw [this]; simp
      · intro h4
        have h5 := nb18_f h4
        repeat' (first | refine gg ?_ | exact trivial | with_reducible refine wA ?_ ?_ | refine Y2.mk ?_ ?_ | refine gh ?_ | exact qq | fail)
        rw [show IntKind.i64.wrap ((i : Int) + 1) = ((i + 1 : Nat) : Int) from w64 (by omega) (by omega)]
        exact kloop_next (st' := ⟨[(1, .ptr 0 0 0), (3, vi ((i + 1 : Nat) : Int))], [rAg18 nm l]⟩) (l.length - (i + 1)) (can_rowsv [0] (k0_sel hk rfl) rfl (.cons rfl rqq .nil) tmq) (by omega) ⟨i + 1, by omega, fun j hj => by
          by_cases e : j = i
          · subst e; exact h5
          · exact hv j (by omega), rfl, rfl⟩
    · repeat' (first | refine gg ?_ | exact trivial | with_reducible refine wA ?_ ?_ | refine Y2.mk ?_ ?_ | refine gh ?_ | exact qq | fail)
      refine kretv rfl ⟨trivial, trivial⟩ rfl (eqB ?_)
      unfold agrS
      have : l.all (fun d => nameS d.nm && defS d) = true := by
        rw [List.all_eq_true]
        intro d hd
        obtain ⟨j, hj, e⟩ := List.getElem_of_mem hd
        have := hv j (by omega)
        unfold lF at this
        rw [List.getD_eq_getElem?_getD, List.getElem?_eq_getElem hj, e] at this
        exact this
      rw [h3.1, decide_eq_true h3.2, this]; rfl
end Go.Proofs.YtcefhgomkehokaaGreat
namespace Go.Proofs.YtcefhgomkehokaaGreat
theorem dated_c (k : Int) : PureC G.P 75 [vi k] (fun r => r = vb (decide (k = 2 ∨ k = 3 ∨ k = 4))) := by
  refine pure_of (G := G.toPg) (fn := Tryz.f75) Tryz.func75 rfl rfl rfl ?_; intro Γ hk
  repeat' (first | refine gg ?_ | exact trivial | with_reducible refine wA ?_ ?_ | refine Y2.mk ?_ ?_ | refine gh ?_ | exact qq | fail)
  refine kretv rfl ⟨trivial, trivial⟩ rfl (eqB ?_)
  by_cases e1 : k = 2 <;> by_cases e2 : k = 3 <;> by_cases e3 : k = 4 <;> simp [e1, e2, e3]
theorem isRoutine_c (d : Df) : PureC G.P 50 [vD d] (fun r => r = vb (comp d)) := by
  refine pure_of (G := G.toPg) (fn := Tryz.f50) Tryz.func50 rfl rfl rfl ?_; intro Γ hk
  repeat' (first | refine gg ?_ | exact trivial | with_reducible refine wA ?_ ?_ | refine Y2.mk ?_ ?_ | refine gh ?_ | exact qq | fail)
  refine kretv rfl ⟨trivial, trivial⟩ rfl (eqB ?_)
  unfold comp
  by_cases e1 : d.kind = 3 <;> by_cases e2 : d.kind = 4 <;> simp [e1, e2]
theorem has_c (L : List Int) (x : Int) (hL : L.length ≤ 1000000) : PureC G.P 49 [sV L, vi x] (fun r => r = vb (decide (x ∈ L))) := by
  refine pure_of (G := G.toPg) (fn := Tryz.f49) Tryz.func49 rfl rfl rfl ?_; intro Γ hk
  repeat' (first | refine gg ?_ | exact trivial | with_reducible refine wA ?_ ?_ | refine Y2.mk ?_ ?_ | refine gh ?_ | exact qq | fail)
  refine pcan (st' := ⟨[(0, sV L), (1, vi x), (5, vi ((0 : Nat) : Int))], []⟩) (can_rowsv [] (k0_sel hk rfl) rfl .nil tmq) ?_
  refine ploop (fun q st => ∃ i : Nat, i ≤ L.length ∧ (∀ j, j < i → lF 0 L j ≠ x) ∧ q = L.length - i ∧ st = ⟨[(0, sV L), (1, vi x), (5, vi i)], []⟩) L.length ⟨0, Nat.zero_le _, fun j hj => absurd hj (Nat.not_lt_zero j), rfl, rfl⟩ ?_
  rintro _ _ ⟨i, hi, hv, rfl, rfl⟩
  have hw1 : IntKind.i64.wrap ((i : Int) + 1) = ((i + 1 : Nat) : Int) := w64 (by omega) (by omega)
  repeat' (first | refine gg ?_ | exact trivial | with_reducible refine wA ?_ ?_ | refine Y2.mk ?_ ?_ | refine gh ?_ | exact qq | fail)
  refine pcond rfl ?_ ?_ <;> intro hc
  · have hc : i < L.length := by have := of_decide_eq_true hc; omega
    repeat' (first | refine gg ?_ | exact trivial | with_reducible refine wA ?_ ?_ | refine Y2.mk ?_ ?_ | refine gh ?_ | exact qq | fail)
    refine pcond (b := decide (lF 0 L i = x)) ?_ ?_ ?_
    · exact eqB (bqd _ _)
    · intro h1
      have h1 := of_decide_eq_true h1
      repeat' (first | refine gg ?_ | exact trivial | with_reducible refine wA ?_ ?_ | refine Y2.mk ?_ ?_ | refine gh ?_ | exact qq | fail)
      refine kretv rfl ⟨trivial, trivial⟩ rfl (eqB ?_)
      rw [← h1, lF_get' hc, decide_eq_true (List.getElem_mem hc)]
    · intro h1
      have h1 := of_decide_eq_false h1
      repeat' (first | refine gg ?_ | exact trivial | with_reducible refine wA ?_ ?_ | refine Y2.mk ?_ ?_ | refine gh ?_ | exact qq | fail)
      rw [hw1]
      exact kloop_next (st' := ⟨[(0, sV L), (1, vi x), (5, vi ((i + 1 : Nat) : Int))], []⟩) (L.length - (i + 1)) (can_rowsv [] (k0_sel hk rfl) rfl .nil tmq) (by omega) ⟨i + 1, by omega, fun j hj => by
        by_cases e : j = i
        · subst e; exact h1
        · exact hv j (by omega), rfl, rfl⟩
  · have hil : i = L.length := by have := of_decide_eq_false hc; omega
    subst hil
    repeat' (first | refine gg ?_ | exact trivial | with_reducible refine wA ?_ ?_ | refine Y2.mk ?_ ?_ | refine gh ?_ | exact qq | fail)
    refine kretv rfl ⟨trivial, trivial⟩ rfl (eqB ?_)
    refine (decide_eq_false fun h => ?_).symm
    obtain ⟨m, hm, e⟩ := List.getElem_of_mem h
    exact hv m hm (by rw [lF_get' hm]; exact e)
theorem ready_c (A B : List Int) (hA : A.length ≤ 1000000) (hB : B.length ≤ 1000000) : PureC G.P 53 [sV A, sV B] (fun r => r = vb (B.all fun y => decide (y ∈ A))) := by
  refine pure_of (G := G.toPg) (fn := Tryz.f53) Tryz.func53 rfl rfl rfl ?_; intro Γ hk
  repeat' (first | refine gg ?_ | exact trivial | with_reducible refine wA ?_ ?_ | refine Y2.mk ?_ ?_ | refine gh ?_ | exact qq | fail)
  refine pcan (st' := ⟨[(0, sV A), (1, sV B), (5, vi ((0 : Nat) : Int))], []⟩) (can_rowsv [] (k0_sel hk rfl) rfl .nil tmq) ?_
  refine ploop (fun q st => ∃ i : Nat, i ≤ B.length ∧ (∀ j, j < i → lF 0 B j ∈ A) ∧ q = B.length - i ∧ st = ⟨[(0, sV A), (1, sV B), (5, vi i)], []⟩) B.length ⟨0, Nat.zero_le _, fun j hj => absurd hj (Nat.not_lt_zero j), rfl, rfl⟩ ?_
  rintro _ _ ⟨i, hi, hv, rfl, rfl⟩
  have hw1 : IntKind.i64.wrap ((i : Int) + 1) = ((i + 1 : Nat) : Int) := w64 (by omega) (by omega)
  repeat' (first | refine gg ?_ | exact trivial | with_reducible refine wA ?_ ?_ | refine Y2.mk ?_ ?_ | refine gh ?_ | exact qq | fail)
  refine pcond rfl ?_ ?_ <;> intro hc
  · have hc : i < B.length := by have := of_decide_eq_true hc; omega
    have ch := has_c A (lF 0 B i) hA
    repeat' (first | refine gg ?_ | exact trivial | with_reducible refine wA ?_ ?_ | refine Y2.mk ?_ ?_ | refine zz ch ?_ | refine gh ?_ | exact qq | fail)
    refine pcond (b := !decide (lF 0 B i ∈ A)) ?_ ?_ ?_
    · exact eqB rfl
    · intro h1
      have h1 := of_decide_eq_false (nv_t h1)
      repeat' (first | refine gg ?_ | exact trivial | with_reducible refine wA ?_ ?_ | refine Y2.mk ?_ ?_ | refine gh ?_ | exact qq | fail)
      refine kretv rfl ⟨trivial, trivial⟩ rfl (eqB ?_)
      symm
      rw [List.all_eq_false]
      exact ⟨lF 0 B i, by rw [lF_get' hc]; exact List.getElem_mem hc, by simpa using h1⟩
    · intro h1
      have h1 := of_decide_eq_true (nv_f h1)
      repeat' (first | refine gg ?_ | exact trivial | with_reducible refine wA ?_ ?_ | refine Y2.mk ?_ ?_ | refine gh ?_ | exact qq | fail)
      rw [hw1]
      exact kloop_next (st' := ⟨[(0, sV A), (1, sV B), (5, vi ((i + 1 : Nat) : Int))], []⟩) (B.length - (i + 1)) (can_rowsv [] (k0_sel hk rfl) rfl .nil tmq) (by omega) ⟨i + 1, by omega, fun j hj => by
        by_cases e : j = i
        · subst e; exact h1
        · exact hv j (by omega), rfl, rfl⟩
  · have hil : i = B.length := by have := of_decide_eq_false hc; omega
    subst hil
    repeat' (first | refine gg ?_ | exact trivial | with_reducible refine wA ?_ ?_ | refine Y2.mk ?_ ?_ | refine gh ?_ | exact qq | fail)
    refine kretv rfl ⟨trivial, trivial⟩ rfl (eqB ?_)
    symm
    rw [List.all_eq_true]
    intro y hy
    obtain ⟨m, hm, rfl⟩ := List.getElem_of_mem hy
    rw [← lF_get' hm]
    exact decide_eq_true (hv m hm)
theorem defS_kind {d : Df} (h : defS d = true) : d.kind = 1 ∨ d.kind = 2 ∨ d.kind = 3 ∨ d.kind = 4 ∨ d.kind = 5 := by
  unfold defS at h
  by_cases k1 : d.kind = 1
  · exact .inl k1
  · rw [if_neg k1] at h
    by_cases k5 : d.kind = 5
    · exact .inr (.inr (.inr (.inr k5)))
    · rw [if_neg k5] at h
      by_cases k2 : d.kind = 2
      · exact .inr (.inl k2)
      · rw [if_neg k2] at h
        by_cases k3 : d.kind = 3
        · exact .inr (.inr (.inl k3))
        · rw [if_neg k3] at h
          by_cases k4 : d.kind = 4
          · exact .inr (.inr (.inr (.inl k4)))
          · rw [if_neg k4] at h; cases h
set_option maxHeartbeats 8000000 in
theorem active21_c (nm : ByteArray) (l : List Df) (day : Int) (i : Nat) (hi : i < l.length) (hl : l.length ≤ 1000000) (hd : defS (lF dD l i) = true) : PureC G.P 54 [vA nm l, vi day, vi i] (fun r => r = vb (isAct l day i)) := by
  have hkd := defS_kind hd
  have cd := dated_c (lF dD l i).kind
  refine pure_of (G := G.toPg) (fn := Tryz.f54) Tryz.func54 rfl rfl rfl ?_; intro Γ hk
  repeat' (first | refine gg ?_ | exact trivial | with_reducible refine wA ?_ ?_ | refine Y2.mk ?_ ?_ | exact ⟨(show (0 : Int) ≤ (i : Int) by omega), (show ((i : Nat) : Int) < ((l.length : Nat) : Int) by omega)⟩ | exact ⟨(show ((i : Nat) : Int).toNat < l.length by omega)⟩ | exact (show ((i : Nat) : Int).toNat < l.length by omega) | refine zz cd ?_ | refine gh ?_ | exact qq | fail)
  refine pcond (b := !decide ((lF dD l i).kind = 2 ∨ (lF dD l i).kind = 3 ∨ (lF dD l i).kind = 4)) ?_ ?_ ?_
  · exact eqB rfl
  · intro h1
    have h1 := of_decide_eq_false (nv_t h1)
    repeat' (first | refine gg ?_ | exact trivial | with_reducible refine wA ?_ ?_ | refine Y2.mk ?_ ?_ | refine gh ?_ | exact qq | fail)
    refine kretv rfl ⟨trivial, trivial⟩ rfl (eqB ?_)
    unfold isAct
    rw [decide_eq_true (by omega : (lF dD l i).kind = 1 ∨ (lF dD l i).kind = 5)]; rfl
  · intro h1
    have h1 := of_decide_eq_true (nv_f h1)
    have h15 : ¬ ((lF dD l i).kind = 1 ∨ (lF dD l i).kind = 5) := by omega
    repeat' (first | refine gg ?_ | exact trivial | with_reducible refine wA ?_ ?_ | refine Y2.mk ?_ ?_ | refine gh ?_ | exact qq | fail)
    refine pcan (st' := ⟨[(1, vi day), (2, vi i), (3, .ptr 0 0 0), (7, .ptr 1 0 0), (8, vi ((0 : Nat) : Int))], [rA1 nm l, rD1 (lF dD l i)]⟩) (can_rowsv [0, 1] (k0_sel hk rfl) rfl (.cons rfl (RowEq.cl (rA1_cl _ _)) (.cons rfl (RowEq.cl (rD1_cl _)) .nil)) tmq) ?_
    refine ploop (fun q st => ∃ j : Nat, j ≤ l.length ∧ (∀ j', j' < j → supB l day i j' = false) ∧ q = l.length - j ∧ st = ⟨[(1, vi day), (2, vi i), (3, .ptr 0 0 0), (7, .ptr 1 0 0), (8, vi j)], [rA1 nm l, rD1 (lF dD l i)]⟩) l.length ⟨0, by omega, fun j hj => by omega, by omega, rfl⟩ ?_
    rintro _ _ ⟨j, hj, hv, rfl, rfl⟩
    have hwj : IntKind.i64.wrap ((j : Int) + 1) = ((j + 1 : Nat) : Int) := w64 (by omega) (by omega)
    repeat' (first | refine gg ?_ | exact trivial | with_reducible refine wA ?_ ?_ | refine Y2.mk ?_ ?_ | refine gh ?_ | exact qq | fail)
    refine pcond rfl ?_ ?_ <;> intro hc
    · have hc : j < l.length := by have := of_decide_eq_true hc; omega
      repeat' (first | refine gg ?_ | exact trivial | with_reducible refine wA ?_ ?_ | refine Y2.mk ?_ ?_ | refine gh ?_ | exact qq | fail)
      refine pcond (b := supB l day i j) ?_ ?_ ?_
      · refine eqB ?_
        unfold supB
        show (bif bif bif ((lF dD l j).kind == (lF dD l i).kind) then ((lF dD l j).nm.toList == (lF dD l i).nm.toList) else false then decide ((lF dD l j).day ≤ day) else false then (bif decide ((lF dD l i).day < (lF dD l j).day) then true else bif ((lF dD l j).day == (lF dD l i).day) then decide ((j : Int) < (i : Int)) else false) else false) = _
        by_cases e1 : (lF dD l j).kind = (lF dD l i).kind <;> by_cases e2 : (lF dD l j).nm.toList = (lF dD l i).nm.toList <;> by_cases e3 : (lF dD l j).day ≤ day <;> by_cases e4 : (lF dD l i).day < (lF dD l j).day <;> by_cases e5 : (lF dD l j).day = (lF dD l i).day <;> by_cases e6 : j < i <;> simp [e1, e2, e3, e4, e5, e6]
      · intro h2
        repeat' (first | refine gg ?_ | exact trivial | with_reducible refine wA ?_ ?_ | refine Y2.mk ?_ ?_ | refine gh ?_ | exact qq | fail)
        refine kretv rfl ⟨trivial, trivial⟩ rfl (eqB ?_)
        unfold isAct
        rw [decide_eq_false h15, repl_yes hc h2]; simp
      · intro h2
        repeat' (first | refine gg ?_ | exact trivial | with_reducible refine wA ?_ ?_ | refine Y2.mk ?_ ?_ | refine gh ?_ | exact qq | fail)
        rw [hwj]
        exact kloop_next (st' := ⟨[(1, vi day), (2, vi i), (3, .ptr 0 0 0), (7, .ptr 1 0 0), (8, vi ((j + 1 : Nat) : Int))], [rA1 nm l, rD1 (lF dD l i)]⟩) (l.length - (j + 1)) (can_rowsv [0, 1] (k0_sel hk rfl) rfl (.cons rfl (RowEq.cl (rA1_cl _ _)) (.cons rfl (RowEq.cl (rD1_cl _)) .nil)) tmq) (by omega) ⟨j + 1, by omega, fun j' hj' => by
          by_cases e : j' = j
          · subst e; exact h2
          · exact hv j' (by omega), rfl, rfl⟩
    · have hjl : j = l.length := by have := of_decide_eq_false hc; omega
      subst hjl
      repeat' (first | refine gg ?_ | exact trivial | with_reducible refine wA ?_ ?_ | refine Y2.mk ?_ ?_ | refine gh ?_ | exact qq | fail)
      refine kretv rfl ⟨trivial, trivial⟩ rfl (eqB ?_)
      unfold isAct
      rw [decide_eq_false h15, repl_no hv]; simp
end Go.Proofs.YtcefhgomkehokaaGreat
namespace Go.Proofs.YtcefhgomkehokaaGreat
theorem chk_days {nm : ByteArray} {l : List Df} {day : Int} : chkE nm l day = if agrS nm l = false then 1 else if dayS day = false then 2 else 0 := by
  unfold chkE dayS
  by_cases h1 : agrS nm l = false
  · rw [if_pos h1, if_pos h1]
  · rw [if_neg h1, if_neg h1]
    by_cases h2 : day < 0 ∨ 84005 < day
    · rw [if_pos h2, if_pos (decide_eq_false (by omega))]
    · rw [if_neg h2, if_neg (by rw [decide_eq_true (by omega)]; decide)]
set_option maxHeartbeats 8000000 in
theorem Active21_c (nm : ByteArray) (l : List Df) (day : Int) (h : AgO nm l) (hl : l.length ≤ 1000000) : PureC G.P 32 [vA nm l, vi day] (fun r => r = sV (ActS nm l day)) := by
  have cv := valid18_c nm l h.nm h.bd
  have cd := inDays_c day
  have hck := chk_days (nm := nm) (l := l) (day := day)
  refine pure_of (G := G.toPg) (fn := Tryz.f32) Tryz.func32 rfl rfl rfl ?_; intro Γ hk
  repeat' (first | refine gg ?_ | exact trivial | with_reducible refine wA ?_ ?_ | refine Y2.mk ?_ ?_ | refine zz cv ?_ | refine gh ?_ | exact qq | fail)
  cases ha : agrS nm l with
  | false =>
    rw [ha] at hck
    repeat' (first | refine gg ?_ | exact trivial | with_reducible refine wA ?_ ?_ | refine Y2.mk ?_ ?_ | (refine pop_gfalse rfl rfl rfl rfl ?_) | refine gh ?_ | exact qq | fail)
    refine xdone ?_
    refine kret [] rfl ⟨trivial, trivial⟩ (qs := [.vsl 0 1 (tI (lF 0 []))]) ⟨argNil, trivial⟩ ?_
    unfold ActS; rw [hck]; rfl
  | true =>
    rw [ha] at hck
    repeat' (first | refine gg ?_ | exact trivial | with_reducible refine wA ?_ ?_ | refine Y2.mk ?_ ?_ | refine zz cd ?_ | refine gh ?_ | exact qq | fail)
    refine pcond (b := !dayS day) ?_ ?_ ?_
    · exact eqB rfl
    · intro h1
      rw [nv_t h1] at hck
      repeat' (first | refine gg ?_ | exact trivial | with_reducible refine wA ?_ ?_ | refine Y2.mk ?_ ?_ | refine gh ?_ | exact qq | fail)
      refine xdone ?_
      refine kret [] rfl ⟨trivial, trivial⟩ (qs := [.vsl 0 1 (tI (lF 0 []))]) ⟨argNil, trivial⟩ ?_
      unfold ActS; rw [hck]; rfl
    · intro h1
      rw [nv_f h1] at hck
      have hA : ActS nm l day = actL l day := by unfold ActS; rw [hck]; rfl
      rw [hA]
      repeat' (first | refine gg ?_ | exact trivial | with_reducible refine wA ?_ ?_ | refine Y2.mk ?_ ?_ | refine gh ?_ | exact qq | fail)
      refine pcan (can_virt (vRow c1 1 0 (lF 0 [])) rfl) ?_
      refine pcan (st' := ⟨[(1, vi day), (2, .ptr 0 0 0), (5, slP 0 1), (6, vi ((0 : Nat) : Int))], [rA1 nm l, vRow c1 1 0 (lF 0 (actN l day 0))]⟩) (can_rowsv [0, 1] (k0_sel hk rfl) rfl (.cons rfl (RowEq.cl (rA1_cl _ _)) (.cons rfl (RowEq.cl (v_cl c1_cl _ _ _)) .nil)) tmq) ?_
      refine ploop (fun q st => ∃ j k : Nat, j ≤ l.length ∧ (actN l day j).length = k ∧ q = l.length - j ∧ st = ⟨[(1, vi day), (2, .ptr 0 0 0), (5, slP k 1), (6, vi j)], [rA1 nm l, vRow c1 1 k (lF 0 (actN l day j))]⟩) l.length ⟨0, 0, by omega, rfl, by omega, rfl⟩ ?_
      rintro _ _ ⟨j, k, hj, hk2, rfl, rfl⟩
      have hwj : IntKind.i64.wrap ((j : Int) + 1) = ((j + 1 : Nat) : Int) := w64 (by omega) (by omega)
      have hkl := actN_len l day j
      repeat' (first | refine gg ?_ | exact trivial | with_reducible refine wA ?_ ?_ | refine Y2.mk ?_ ?_ | refine gh ?_ | exact qq | fail)
      refine pcond rfl ?_ ?_ <;> intro hc
      · have hc : j < l.length := by have := of_decide_eq_true hc; omega
        have cr := active21_c nm l day j hc hl (agr_at ha hc)
        repeat' (first | refine gg ?_ | exact trivial | with_reducible refine wA ?_ ?_ | refine Y2.mk ?_ ?_ | refine zz cr ?_ | refine gh ?_ | exact qq | fail)
        refine pcond (b := isAct l day j) ?_ ?_ ?_
        · exact eqB rfl
        · intro h1
          have e1 := actN_y h1
          rcases k with _ | k
          · repeat' (first | refine gg ?_ | exact trivial | with_reducible refine wA ?_ ?_ | refine Y2.mk ?_ ?_ | exact ⟨Nat.le_refl _, (by rw [hk]; exact Nat.le_of_ble_eq_true rfl), Nat.le_of_eq (Nat.zero_add _), (show (_ : Nat) * 8 ≤ 140737488355328 from by omega), (show (_ : Nat) ≤ 9223372036854775807 from by omega)⟩ | refine gh ?_ | exact qq | fail)
            rw [hwj]
            exact kloop_next (st' := ⟨[(1, vi day), (2, .ptr 0 0 0), (5, slP (0 + 1) 1), (6, vi ((j + 1 : Nat) : Int))], [rA1 nm l, vRow c1 1 (0 + 1) (lF 0 (actN l day j ++ [(j : Int)]))]⟩) (l.length - (j + 1)) (can_rowsv [0, 3] (k0_sel hk rfl) rfl (.cons rfl (RowEq.cl (rA1_cl _ _)) (.cons rfl (app_l0 c1_cl hk2 rfl) .nil)) tmq) (by omega) ⟨j + 1, 0 + 1, by omega, by rw [e1, List.length_append, hk2]; rfl, rfl, by rw [e1]⟩
          · repeat' (first | refine gg ?_ | exact trivial | with_reducible refine wA ?_ ?_ | refine Y2.mk ?_ ?_ | exact ⟨Nat.le_refl _, (by rw [hk]; exact Nat.le_of_ble_eq_true rfl), Nat.le_of_eq (Nat.zero_add _), (show (_ : Nat) * 8 ≤ 140737488355328 from by omega), (show (_ : Nat) ≤ 9223372036854775807 from by omega)⟩ | refine gh ?_ | exact qq | fail)
            rw [hwj]
            exact kloop_next (st' := ⟨[(1, vi day), (2, .ptr 0 0 0), (5, slP (k + 1 + 1) 1), (6, vi ((j + 1 : Nat) : Int))], [rA1 nm l, vRow c1 1 (k + 1 + 1) (lF 0 (actN l day j ++ [(j : Int)]))]⟩) (l.length - (j + 1)) (can_rowsv [0, 3] (k0_sel hk rfl) rfl (.cons rfl (RowEq.cl (rA1_cl _ _)) (.cons rfl (app_l c1_cl hk2 rfl rfl) .nil)) tmq) (by omega) ⟨j + 1, k + 1 + 1, by omega, by rw [e1, List.length_append, hk2]; rfl, rfl, by rw [e1]⟩
        · intro h1
          have e1 := actN_n h1
          repeat' (first | refine gg ?_ | exact trivial | with_reducible refine wA ?_ ?_ | refine Y2.mk ?_ ?_ | refine gh ?_ | exact qq | fail)
          rw [hwj]
          exact kloop_next (st' := ⟨[(1, vi day), (2, .ptr 0 0 0), (5, slP k 1), (6, vi ((j + 1 : Nat) : Int))], [rA1 nm l, vRow c1 1 k (lF 0 (actN l day j))]⟩) (l.length - (j + 1)) (can_rowsv [0, 1] (k0_sel hk rfl) rfl (.cons rfl (RowEq.cl (rA1_cl _ _)) (.cons rfl (RowEq.cl (v_cl c1_cl _ _ _)) .nil)) (by exact ⟨PEq.refl _, PEq.refl _, peq_slP rfl, PEq.refl _, trivial⟩)) (by omega) ⟨j + 1, k, by omega, by rw [e1]; exact hk2, rfl, by rw [e1]⟩
      · have hjl : j = l.length := by have := of_decide_eq_false hc; omega
        subst hjl
        rcases k with _ | k
        · repeat' (first | refine gg ?_ | exact trivial | with_reducible refine wA ?_ ?_ | refine Y2.mk ?_ ?_ | refine gh ?_ | exact qq | fail)
          refine xdone ?_
          refine kret [1] rfl ⟨trivial, trivial⟩ (qs := [.vsl 0 1 (tI (lF 0 (actL l day)))]) ⟨argTI (arg_v (n := 0) (l := 1) c1_cl rfl (List.Mem.head _)), trivial⟩ ?_
          rw [← hk2]; rfl
        · repeat' (first | refine gg ?_ | exact trivial | with_reducible refine wA ?_ ?_ | refine Y2.mk ?_ ?_ | refine gh ?_ | exact qq | fail)
          refine xdone ?_
          refine kret [1] rfl ⟨trivial, trivial⟩ (qs := [.vsl (k + 1) 1 (tI (lF 0 (actL l day)))]) ⟨argTI (arg_v (n := k + 1) (l := 1) c1_cl rfl (List.Mem.head _)), trivial⟩ ?_
          rw [← hk2]; rfl
def inpI (l : List Df) (s : ByteArray) : Int := match (List.range l.length).find? (inpB l s) with
  | some i => i
  | none => -1
set_option maxHeartbeats 8000000 in
theorem input21_c (nm : ByteArray) (l : List Df) (s : ByteArray) (hl : l.length ≤ 1000000) : PureC G.P 92 [vA nm l, vs s] (fun r => r = vi (inpI l s)) := by
  refine pure_of (G := G.toPg) (fn := Tryz.f92) Tryz.func92 rfl rfl rfl ?_; intro Γ hk
  repeat' (first | refine gg ?_ | exact trivial | with_reducible refine wA ?_ ?_ | refine Y2.mk ?_ ?_ | refine gh ?_ | exact qq | fail)
  refine pcan (st' := ⟨[(1, vs s), (2, .ptr 0 0 0), (5, vi ((0 : Nat) : Int))], [rA1 nm l]⟩) (can_rowsv [0] (k0_sel hk rfl) rfl (.cons rfl (RowEq.cl (rA1_cl _ _)) .nil) tmq) ?_
  refine ploop (fun q st => ∃ i : Nat, i ≤ l.length ∧ (∀ j, j < i → inpB l s j = false) ∧ q = l.length - i ∧ st = ⟨[(1, vs s), (2, .ptr 0 0 0), (5, vi i)], [rA1 nm l]⟩) l.length ⟨0, by omega, fun j hj => by omega, by omega, rfl⟩ ?_
  rintro _ _ ⟨i, hi, hv, rfl, rfl⟩
  have hw1 : IntKind.i64.wrap ((i : Int) + 1) = ((i + 1 : Nat) : Int) := w64 (by omega) (by omega)
  repeat' (first | refine gg ?_ | exact trivial | with_reducible refine wA ?_ ?_ | refine Y2.mk ?_ ?_ | refine gh ?_ | exact qq | fail)
  refine pcond rfl ?_ ?_ <;> intro hc
  · have hc : i < l.length := by have := of_decide_eq_true hc; omega
    repeat' (first | refine gg ?_ | exact trivial | with_reducible refine wA ?_ ?_ | refine Y2.mk ?_ ?_ | (intro hh; exact ⟨hh, by omega, by omega⟩) | (intro hh; exact ⟨by omega, by omega⟩) | refine gh ?_ | exact qq | fail)
    refine pcond (b := inpB l s i) ?_ ?_ ?_
    · refine eqB ?_
      unfold inpB
      show (bif ((lF dD l i).kind == 1) then ((lF dD l i).nm.toList == s.toList) else false) = _
      by_cases e1 : (lF dD l i).kind = 1 <;> by_cases e2 : (lF dD l i).nm.toList = s.toList <;> simp [e1, e2]
    · intro h1
      repeat' (first | refine gg ?_ | exact trivial | with_reducible refine wA ?_ ?_ | refine Y2.mk ?_ ?_ | refine gh ?_ | exact qq | fail)
      refine kretv rfl ⟨trivial, trivial⟩ rfl ?_
      unfold inpI
      rw [find_rng hc hv h1]; rfl
    · intro h1
      repeat' (first | refine gg ?_ | exact trivial | with_reducible refine wA ?_ ?_ | refine Y2.mk ?_ ?_ | refine gh ?_ | exact qq | fail)
      rw [hw1]
      exact kloop_next (st' := ⟨[(1, vs s), (2, .ptr 0 0 0), (5, vi ((i + 1 : Nat) : Int))], [rA1 nm l]⟩) (l.length - (i + 1)) (can_rowsv [0] (k0_sel hk rfl) rfl (.cons rfl (RowEq.cl (rA1_cl _ _)) .nil) tmq) (by omega) ⟨i + 1, by omega, fun j hj => by
        by_cases e : j = i
        · subst e; exact h1
        · exact hv j (by omega), rfl, rfl⟩
  · have hil : i = l.length := by have := of_decide_eq_false hc; omega
    subst hil
    repeat' (first | refine gg ?_ | exact trivial | with_reducible refine wA ?_ ?_ | refine Y2.mk ?_ ?_ | refine gh ?_ | exact qq | fail)
    refine kretv rfl ⟨trivial, trivial⟩ rfl ?_
    unfold inpI
    rw [find_rno hv]; rfl
end Go.Proofs.YtcefhgomkehokaaGreat
namespace Go.Proofs.YtcefhgomkehokaaGreat
def nmX (sc : Bool) (s : ByteArray) : Ex := .mk (bif sc then 4 else 3) 0 0 0 0 0 s 0 0 0 (fun _ => .nil)
theorem mean_congr {l : List Df} {act : List Int} {e e' : Ex} (h1 : e.op = e'.op) (h2 : e.nm = e'.nm) : meanI l act e = meanI l act e' := by
  have : fitB l e = fitB l e' := by funext x; unfold fitB; rw [h1, h2]
  unfold meanI
  rw [h1, h2, this]
def mnI (l : List Df) (act : List Int) (s : ByteArray) (sc : Bool) : Int := (meanI l act (nmX sc s)).getD (-1)
theorem mnI_inp {l : List Df} {act : List Int} {s : ByteArray} (h : 0 ≤ inpI l s) : mnI l act s false = inpI l s := by
  unfold mnI meanI inpI at *
  rw [if_pos (show (nmX false s).op = 3 from rfl)]
  show (match (List.range l.length).find? (inpB l s) with | some i => some (i : Int) | none => act.find? (fitB l (nmX false s))).getD (-1) = _
  cases hi : (List.range l.length).find? (inpB l s) with
  | none => rw [hi] at h; exact absurd h (by decide)
  | some i => rfl
theorem mnI_act {l : List Df} {act : List Int} {s : ByteArray} {sc : Bool} (h : sc = true ∨ inpI l s < 0) : mnI l act s sc = (act.find? (fitB l (nmX sc s))).getD (-1) := by
  unfold mnI meanI
  cases sc with
  | true => rw [if_neg (show ¬ (nmX true s).op = 3 from show ¬ (4 : Int) = 3 by decide)]
  | false =>
    have h := h.resolve_left (by decide)
    unfold inpI at h
    rw [if_pos (show (nmX false s).op = 3 from rfl)]
    show (match (List.range l.length).find? (inpB l s) with | some i => some (i : Int) | none => act.find? (fitB l (nmX false s))).getD (-1) = _
    cases hi : (List.range l.length).find? (inpB l s) with
    | some i =>
      rw [hi] at h
      have h : (i : Int) < 0 := h
      omega
    | none => rfl
set_option maxHeartbeats 8000000 in
theorem means21_c (nm : ByteArray) (l : List Df) (act : List Int) (s : ByteArray) (sc : Bool) (hl : l.length ≤ 1000000) (ha : act.length ≤ 1000000) (hin : ∀ x, x ∈ act → 0 ≤ x ∧ x < l.length) : PureC G.P 78 [vA nm l, sV act, vs s, vb sc] (fun r => r = vi (mnI l act s sc)) := by
  have ci := input21_c nm l s hl
  refine pure_of (G := G.toPg) (fn := Tryz.f78) Tryz.func78 rfl rfl rfl ?_; intro Γ hk
  refine pseq ?_
  refine pcut (fun st => st = ⟨[(1, sV act), (2, vs s), (3, vb sc), (4, .ptr 0 0 0)], [rA1 nm l]⟩) ?_ ?_
  · repeat' (first | refine gg ?_ | exact trivial | with_reducible refine wA ?_ ?_ | refine Y2.mk ?_ ?_ | refine gh ?_ | exact qq | fail)
    exact kcut (st' := ⟨[(1, sV act), (2, vs s), (3, vb sc), (4, .ptr 0 0 0)], [rA1 nm l]⟩) (can_rowsv [0] (k0_sel hk rfl) rfl (.cons rfl (RowEq.cl (rA1_cl _ _)) .nil) tmq) rfl
  rintro _ rfl
  refine pseq ?_
  refine pcut (fun st => (sc = true ∨ inpI l s < 0) ∧ st = ⟨[(1, sV act), (2, vs s), (3, vb sc), (4, .ptr 0 0 0)], [rA1 nm l]⟩) ?_ ?_
  · cases sc with
    | true =>
      repeat' (first | refine gg ?_ | exact trivial | with_reducible refine wA ?_ ?_ | refine Y2.mk ?_ ?_ | (refine pop_gfalse rfl rfl rfl rfl ?_) | refine gh ?_ | exact qq | fail)
      refine xdone ?_
      exact kcut (st' := ⟨[(1, sV act), (2, vs s), (3, vb true), (4, .ptr 0 0 0)], [rA1 nm l]⟩) (can_rowsv [0] (k0_sel hk rfl) rfl (.cons rfl (RowEq.cl (rA1_cl _ _)) .nil) tmq) ⟨.inl rfl, rfl⟩
    | false =>
      repeat' (first | refine gg ?_ | exact trivial | with_reducible refine wA ?_ ?_ | refine Y2.mk ?_ ?_ | refine zz ci ?_ | refine gh ?_ | exact qq | fail)
      refine pcond (b := decide (0 ≤ inpI l s)) ?_ ?_ ?_
      · refine eqB ?_
        cases decide (0 ≤ inpI l s) <;> rfl
      · intro h1
        have h1 := of_decide_eq_true h1
        repeat' (first | refine gg ?_ | exact trivial | with_reducible refine wA ?_ ?_ | refine Y2.mk ?_ ?_ | refine gh ?_ | exact qq | fail)
        repeat' (first | refine gg ?_ | exact trivial | with_reducible refine wA ?_ ?_ | refine Y2.mk ?_ ?_ | (refine z1 ci ?_) | (refine z2 ci ?_) | refine gh ?_ | exact qq | fail)
        refine kretv rfl ⟨trivial, trivial⟩ rfl ?_
        rw [mnI_inp h1]; rfl
      · intro h1
        have h1 := of_decide_eq_false h1
        repeat' (first | refine gg ?_ | exact trivial | with_reducible refine wA ?_ ?_ | refine Y2.mk ?_ ?_ | refine gh ?_ | exact qq | fail)
        refine xdone ?_
        exact kcut (st' := ⟨[(1, sV act), (2, vs s), (3, vb false), (4, .ptr 0 0 0)], [rA1 nm l]⟩) (can_rowsv [0] (k0_sel hk rfl) rfl (.cons rfl (RowEq.cl (rA1_cl _ _)) .nil) tmq) ⟨.inr (by omega), rfl⟩
  rintro _ ⟨hi, rfl⟩
  rw [mnI_act hi]
  repeat' (first | refine gg ?_ | exact trivial | with_reducible refine wA ?_ ?_ | refine Y2.mk ?_ ?_ | refine gh ?_ | exact qq | fail)
  refine pcan (st' := ⟨[(1, sV act), (2, vs s), (3, vb sc), (4, .ptr 0 0 0), (9, vi ((0 : Nat) : Int))], [rA1 nm l]⟩) (can_rowsv [0] (k0_sel hk rfl) rfl (.cons rfl (RowEq.cl (rA1_cl _ _)) .nil) tmq) ?_
  refine ploop (fun q st => ∃ i : Nat, i ≤ act.length ∧ (∀ j, j < i → fitB l (nmX sc s) (lF 0 act j) = false) ∧ q = act.length - i ∧ st = ⟨[(1, sV act), (2, vs s), (3, vb sc), (4, .ptr 0 0 0), (9, vi i)], [rA1 nm l]⟩) act.length ⟨0, by omega, fun j hj => by omega, by omega, rfl⟩ ?_
  rintro _ _ ⟨i, hi2, hv, rfl, rfl⟩
  have hw1 : IntKind.i64.wrap ((i : Int) + 1) = ((i + 1 : Nat) : Int) := w64 (by omega) (by omega)
  repeat' (first | refine gg ?_ | exact trivial | with_reducible refine wA ?_ ?_ | refine Y2.mk ?_ ?_ | refine gh ?_ | exact qq | fail)
  refine pcond rfl ?_ ?_ <;> intro hc
  · have hc : i < act.length := by have := of_decide_eq_true hc; omega
    have hx := hin (lF 0 act i) (by rw [lF_get' hc]; exact List.getElem_mem hc)
    have cr := isRoutine_c (lF dD l (lF 0 act i).toNat)
    repeat' (first | refine gg ?_ | exact trivial | with_reducible refine wA ?_ ?_ | refine Y2.mk ?_ ?_ | refine xs_start (id := 6) true [.take 0, .take 1, .take 2, .take 3, .take 4, .take 5, .take 6, .take 7, .one 8, .one 9] 0 rfl rfl (by kernel_rfl) ?_ | exact hx | (exact (show (lF 0 act i).toNat < l.length by omega)) | refine zz cr ?_ | refine gh ?_ | exact qq | fail)
    refine pcond (b := fitB l (nmX sc s) (lF 0 act i)) ?_ ?_ ?_
    · refine eqB ?_
      show (bif ((lF dD l (lF 0 act i).toNat).nm.toList == s.toList) then bif bif sc then ((lF dD l (lF 0 act i).toNat).kind == 2) else false then true else bif !sc then comp (lF dD l (lF 0 act i).toNat) else false else false) = _
      unfold fitB
      cases sc with
      | true =>
        show _ = decide (((4 : Int) = 3 ∧ _ ∨ (4 : Int) = 4 ∧ _) ∧ _ = s.toList)
        by_cases e1 : (lF dD l (lF 0 act i).toNat).nm.toList = s.toList <;> by_cases e2 : (lF dD l (lF 0 act i).toNat).kind = 2 <;> simp [e1, e2]
      | false =>
        show _ = decide (((3 : Int) = 3 ∧ _ ∨ (3 : Int) = 4 ∧ _) ∧ _ = s.toList)
        by_cases e1 : (lF dD l (lF 0 act i).toNat).nm.toList = s.toList <;> cases comp (lF dD l (lF 0 act i).toNat) <;> simp [e1]
    · intro h1
      repeat' (first | refine gg ?_ | exact trivial | with_reducible refine wA ?_ ?_ | refine Y2.mk ?_ ?_ | (exact (show (_ : Nat) < _ by omega)) | refine gh ?_ | exact qq | fail)
      refine xdone ?_
      refine kretv rfl ⟨trivial, trivial⟩ rfl ?_
      rw [find_lF hc hv h1]; rfl
    · intro h1
      repeat' (first | refine gg ?_ | exact trivial | with_reducible refine wA ?_ ?_ | refine Y2.mk ?_ ?_ | refine gh ?_ | exact qq | fail)
      rw [hw1]
      exact kloop_next (st' := ⟨[(1, sV act), (2, vs s), (3, vb sc), (4, .ptr 0 0 0), (9, vi ((i + 1 : Nat) : Int))], [rA1 nm l]⟩) (act.length - (i + 1)) (can_rowsv [0] (k0_sel hk rfl) rfl (.cons rfl (RowEq.cl (rA1_cl _ _)) .nil) tmq) (by omega) ⟨i + 1, by omega, fun j hj => by
        by_cases e : j = i
        · subst e; exact h1
        · exact hv j (by omega), rfl, rfl⟩
  · have hil : i = act.length := by have := of_decide_eq_false hc; omega
    subst hil
    repeat' (first | refine gg ?_ | exact trivial | with_reducible refine wA ?_ ?_ | refine Y2.mk ?_ ?_ | refine gh ?_ | exact qq | fail)
    refine kretv rfl ⟨trivial, trivial⟩ rfl ?_
    rw [find_lno hv]; rfl
end Go.Proofs.YtcefhgomkehokaaGreat
namespace Go.Proofs.YtcefhgomkehokaaGreat
/-! ### the graph -/
def nodL (l : List Df) (act : List Int) : List Int := act.filter fun x => comp (lF dD l x.toNat)
def mapL (l : List Df) (act ns : List Int) : List (Int × List Int) := ns.map fun x => (x, (needS l act x.toNat).1)
def gErr (nm : ByteArray) (l : List Df) (day : Int) : Int :=
  if chkE nm l day ≠ 0 then chkE nm l day else if (nodL l (actL l day)).all (fun x => decide ((needS l (actL l day) x.toNat).2 = 0)) = true then 0 else 7
def cG (a b : PV) : Row := ⟨.own, true, 1, 2, fun _ => nthP [a, b]⟩
theorem cG_eq {τ : Nat → Option Nat} {a b : PV} {f : Nat → Nat → PV} (ha : PEq ((f 0 0).ren τ) a) (hb : PEq ((f 0 1).ren τ) b) : RowEq (Row.ren τ ⟨.own, true, 1, 2, f⟩) (cG a b) := ⟨rfl, rfl, Nat.le_refl _, fun i hi j hj => by
  have hi : i < 1 := hi
  have hj : j < 2 := hj
  obtain rfl : i = 0 := by omega
  obtain rfl | rfl : j = 0 ∨ j = 1 := by omega
  · exact ha
  · exact hb⟩
theorem needS_err {l : List Df} {act : List Int} {i : Nat} : (needS l act i).2 = 0 ∨ (needS l act i).2 = 7 := by
  unfold needS; split
  · exact .inl rfl
  · exact .inr rfl
theorem nodL_snoc {l : List Df} {A : List Int} {x : Int} : nodL l (A ++ [x]) = nodL l A ++ if comp (lF dD l x.toNat) = true then [x] else [] := by
  unfold nodL
  rw [List.filter_append]
  congr 1
  rw [List.filter_cons, List.filter_nil]
theorem mapL_snoc {l : List Df} {A ns : List Int} {x : Int} : mapL l A (ns ++ [x]) = mapL l A ns ++ [(x, (needS l A x.toNat).1)] := by
  unfold mapL; rw [List.map_append]; rfl
theorem gAll_no {l : List Df} {A : List Int} {x : Int} (hx : x ∈ A) (hc : comp (lF dD l x.toNat) = true) (hz : (needS l A x.toNat).2 ≠ 0) : ¬ (nodL l A).all (fun x => decide ((needS l A x.toNat).2 = 0)) = true := fun h =>
  hz (of_decide_eq_true (List.all_eq_true.1 h x (List.mem_filter.2 ⟨hx, hc⟩)))
theorem vm_g {l : Nat} {c a : PV} : ∀ i, i < 1 → ∀ j, j < 2 → VM l c ((cG a (.mref l)).f i j) ((cG a (.vmap c)).f i j) := fun i hi j hj => by
  obtain rfl | rfl : j = 0 ∨ j = 1 := by omega
  · exact VM.refl
  · exact VM.ref
set_option maxHeartbeats 8000000 in
theorem newGraph_r (nm : ByteArray) (l : List Df) (day : Int) (h : AgO nm l) (hl : l.length ≤ 1000000) : RowsC G.P 36 [] [vA nm l, vi day] (fun r rows => (gErr nm l day ≠ 0 ∧ r = .tup 2 (nthP [.agg 2 (nthP [.val (.slice none 0 0), .val (.map none)]), vi (gErr nm l day)]) ∧ rows = [cG (.val (.slice none 0 0)) (.val (.map none))]) ∨ (gErr nm l day = 0 ∧ ∃ k, (nodL l (actL l day)).length = k ∧ r = .tup 2 (nthP [.agg 2 (nthP [slP k 0, .vmap (cS (mapL l (actL l day) (nodL l (actL l day))))]), vi 0]) ∧ rows = [vRow c1 1 k (lF 0 (nodL l (actL l day))), cG (slP k 0) (.vmap (cS (mapL l (actL l day) (nodL l (actL l day)))))])) := by
  have ck := check_c nm l day h.nm h.bd
  have ca := active_c nm l day hl
  have hal := actL_len l day
  refine rows_of (G := G.toPg) (fn := Tryz.f36) Tryz.func36 rfl rfl rfl ?_; intro Γ hk
  repeat' (first | refine gg ?_ | exact trivial | with_reducible refine wA ?_ ?_ | refine Y2.mk ?_ ?_ | refine zz ck ?_ | refine gh ?_ | exact qq | fail)
  refine pcond (b := decide (chkE nm l day ≠ 0)) (eqB (by rw [Bool.eq_iff_iff]; simp)) ?_ ?_ <;> intro h1
  · have h1 := of_decide_eq_true h1
    have hE : gErr nm l day = chkE nm l day := by unfold gErr; rw [if_pos h1]
    rw [hE]
    repeat' (first | refine gg ?_ | exact trivial | with_reducible refine wA ?_ ?_ | refine Y2.mk ?_ ?_ | refine gh ?_ | exact qq | fail)
    refine xdone ?_
    refine kretr (can_rowsv [1] (tm := [(4, .ptr 0 0 0), (5, vi (chkE nm l day))]) (rows := [cG (.val (.slice none 0 0)) (.val (.map none))]) (k0_sel hk rfl) rfl (.cons rfl (cG_eq (PEq.refl _) (PEq.refl _)) .nil) tmq) rfl ⟨Nat.zero_lt_one, trivial, trivial⟩ rfl (.inl ⟨h1, rfl, rfl⟩)
  · have h1 := Decidable.not_not.1 (of_decide_eq_false h1)
    have hv := chk_valid h1
    have hE : gErr nm l day = if (nodL l (actL l day)).all (fun x => decide ((needS l (actL l day) x.toNat).2 = 0)) = true then 0 else 7 := by unfold gErr; rw [if_neg (by omega)]
    rw [hE]
    clear hE
    have hin := actL_in (l := l) (day := day)
    have hasc : (actL l day).Pairwise (· < ·) := actN_asc l day _
    generalize hA : actL l day = A at *
    repeat' (first | refine gg ?_ | exact trivial | with_reducible refine wA ?_ ?_ | refine Y2.mk ?_ ?_ | refine gh ?_ | exact qq | fail)
    refine pop_mkmapS rfl rfl rfl rfl rfl ?_
    repeat' (first | refine gg ?_ | exact trivial | with_reducible refine wA ?_ ?_ | refine Y2.mk ?_ ?_ | (refine pop_callc [] rfl rfl rfl rfl rfl rfl (fun _ h => by cases h) (ca) (args_cl _ rfl) ?_; rintro _ rfl) | refine gh ?_ | exact qq | fail)
    refine pcan ((can_virt (vRow c1 1 0 (lF 0 [])) rfl).trans (can_rowsv [0, 1, 2, 3, 4] (tm := [(2, .ptr 0 0 0), (4, .ptr 1 0 0), (7, .ptr 3 0 0), (8, sV A), (25, sV A), (26, vi A.length), (27, vi ((0 : Nat) : Int))]) (rows := [rA1 nm l, cG (.val (.slice none 0 0)) (.val (.map none)), sRow (mapL l A (nodL l (A.take 0))), cG (slP 0 4) (.mref 2), vRow c1 1 0 (lF 0 (nodL l (A.take 0)))]) (k0_sel hk rfl) rfl (.cons rfl (RowEq.cl (rA1_cl _ _)) (.cons rfl (cG_eq (PEq.refl _) (PEq.refl _)) (.cons rfl (RowEq.cl (s_cl _)) (.cons rfl (cG_eq (PEq.refl _) (PEq.refl _)) (.cons rfl (RowEq.cl (v_cl c1_cl _ _ _)) .nil))))) tmq)) ?_
    refine ploop (fun q st => ∃ i k : Nat, i ≤ A.length ∧ (nodL l (A.take i)).length = k ∧ (nodL l (A.take i)).all (fun x => decide ((needS l A x.toNat).2 = 0)) = true ∧ q = A.length - i ∧ st = ⟨[(2, .ptr 0 0 0), (4, .ptr 1 0 0), (7, .ptr 3 0 0), (8, sV A), (25, sV A), (26, vi A.length), (27, vi i)], [rA1 nm l, cG (.val (.slice none 0 0)) (.val (.map none)), sRow (mapL l A (nodL l (A.take i))), cG (slP k 4) (.mref 2), vRow c1 1 k (lF 0 (nodL l (A.take i)))]⟩) A.length ⟨0, 0, Nat.zero_le _, by rw [List.take_zero]; rfl, by rw [List.take_zero]; rfl, rfl, rfl⟩ ?_
    rintro _ _ ⟨i, k, hiA, hk2, hall, rfl, rfl⟩
    have hw1 : IntKind.i64.wrap ((i : Int) + 1) = ((i + 1 : Nat) : Int) := w64 (by omega) (by omega)
    repeat' (first | refine gg ?_ | exact trivial | with_reducible refine wA ?_ ?_ | refine Y2.mk ?_ ?_ | refine gh ?_ | exact qq | fail)
    refine pcond rfl ?_ ?_ <;> intro hc
    · have hc : i < A.length := by have := of_decide_eq_true hc; omega
      have hT : A.take (i + 1) = A.take i ++ [lF 0 A i] := by
        unfold lF
        rw [List.take_add_one, List.getD_eq_getElem?_getD, List.getElem?_eq_getElem (by omega)]; rfl
      have hxm : lF 0 A i ∈ A := by rw [lF_get' hc]; exact List.getElem_mem hc
      have hx := hin _ hxm
      have hx2 : (lF 0 A i).toNat < l.length := by omega
      have hx0 : (((lF 0 A i).toNat : Nat) : Int) = lF 0 A i := by omega
      have cc := computed_c (lF dD l (lF 0 A i).toNat)
      have hS := nodL_snoc (l := l) (A := A.take i) (x := lF 0 A i)
      rw [← hT] at hS
      cases hcm : comp (lF dD l (lF 0 A i).toNat) with
      | false =>
        rw [hcm] at cc
        rw [hcm, if_neg (by decide), List.append_nil] at hS
        rcases k with _ | k
        all_goals
          repeat' (first | refine gg ?_ | exact trivial | with_reducible refine wA ?_ ?_ | refine Y2.mk ?_ ?_ | exact ⟨hx.1, hx.2⟩ | exact hx2 | refine zz cc ?_ | refine gh ?_ | exact qq | fail)
          rw [hw1]
        · exact kloop_next (st' := ⟨[(2, .ptr 0 0 0), (4, .ptr 1 0 0), (7, .ptr 3 0 0), (8, sV A), (25, sV A), (26, vi A.length), (27, vi ((i + 1 : Nat) : Int))], [rA1 nm l, cG (.val (.slice none 0 0)) (.val (.map none)), sRow (mapL l A (nodL l (A.take i))), cG (slP 0 4) (.mref 2), vRow c1 1 0 (lF 0 (nodL l (A.take i)))]⟩) (A.length - (i + 1)) (can_rowsv [0, 1, 2, 3, 4] (k0_sel hk rfl) rfl (.cons rfl (RowEq.cl (rA1_cl _ _)) (.cons rfl (cG_eq (PEq.refl _) (PEq.refl _)) (.cons rfl (RowEq.cl (s_cl _)) (.cons rfl (cG_eq (PEq.refl _) (PEq.refl _)) (.cons rfl (RowEq.cl (v_cl c1_cl _ _ _)) .nil))))) tmq) (by omega) ⟨i + 1, 0, by omega, by rw [hS]; exact hk2, by rw [hS]; exact hall, rfl, by rw [hS]⟩
        · exact kloop_next (st' := ⟨[(2, .ptr 0 0 0), (4, .ptr 1 0 0), (7, .ptr 3 0 0), (8, sV A), (25, sV A), (26, vi A.length), (27, vi ((i + 1 : Nat) : Int))], [rA1 nm l, cG (.val (.slice none 0 0)) (.val (.map none)), sRow (mapL l A (nodL l (A.take i))), cG (slP (k + 1) 4) (.mref 2), vRow c1 1 (k + 1) (lF 0 (nodL l (A.take i)))]⟩) (A.length - (i + 1)) (can_rowsv [0, 1, 2, 3, 4] (k0_sel hk rfl) rfl (.cons rfl (RowEq.cl (rA1_cl _ _)) (.cons rfl (cG_eq (PEq.refl _) (PEq.refl _)) (.cons rfl (RowEq.cl (s_cl _)) (.cons rfl (cG_eq (PEq.refl _) (PEq.refl _)) (.cons rfl (RowEq.cl (v_cl c1_cl _ _ _)) .nil))))) tmq) (by omega) ⟨i + 1, k + 1, by omega, by rw [hS]; exact hk2, by rw [hS]; exact hall, rfl, by rw [hS]⟩
      | true =>
        rw [hcm] at cc
        rw [hcm, if_pos rfl] at hS
        have cd := needs_c nm l A (lF 0 A i).toNat hx2 hl (by omega) hin hasc (h.body hv hx2 hcm)
        rw [hx0] at cd
        have hkey : ∀ e, e ∈ mapL l A (nodL l (A.take i)) → e.1 ≠ lF 0 A i := fun e he => by
          obtain ⟨y, hy, rfl⟩ := List.mem_map.1 he
          have hy2 := (List.mem_filter.1 hy).1
          have h3 : (A.take (i + 1)).Pairwise (· < ·) := hasc.sublist (List.take_sublist _ _)
          rw [hT, List.pairwise_append] at h3
          have := h3.2.2 y hy2 (lF 0 A i) (List.mem_singleton.2 rfl)
          show y ≠ lF 0 A i
          omega
        have hkb : k ≤ i := by rw [← hk2]; exact Nat.le_trans (List.length_filter_le _ _) (by rw [List.length_take]; omega)
        rcases k with _ | k
        all_goals
          repeat' (first | refine gg ?_ | exact trivial | with_reducible refine wA ?_ ?_ | refine Y2.mk ?_ ?_ | (refine pop_callc [] rfl rfl rfl rfl rfl rfl (fun _ h => by cases h) (cd) (args_cl _ rfl) ?_; rintro _ rfl) | exact ⟨hx.1, hx.2⟩ | exact hx2 | refine zz cc ?_ | refine gh ?_ | exact qq | fail)
          refine pcond (b := decide ((needS l A (lF 0 A i).toNat).2 ≠ 0)) (eqB (by rw [Bool.eq_iff_iff]; simp)) ?_ ?_ <;> intro hz
        · have hz := of_decide_eq_true hz
          have hz7 : (needS l A (lF 0 A i).toNat).2 = 7 := by rcases needS_err (l := l) (act := A) (i := (lF 0 A i).toNat) with e | e; exact absurd e hz; exact e
          have hna := gAll_no hxm hcm hz
          repeat' (first | refine gg ?_ | exact trivial | with_reducible refine wA ?_ ?_ | refine Y2.mk ?_ ?_ | refine gh ?_ | exact qq | fail)
          refine xdone ?_
          refine kretr (can_rowsv [1] (tm := [(4, .ptr 0 0 0), (5, vi (needS l A (lF 0 A i).toNat).2)]) (rows := [cG (.val (.slice none 0 0)) (.val (.map none))]) (k0_sel hk rfl) rfl (.cons rfl (cG_eq (PEq.refl _) (PEq.refl _)) .nil) tmq) rfl ⟨Nat.zero_lt_one, trivial, trivial⟩ rfl (.inl ⟨by rw [if_neg hna]; decide, by rw [if_neg hna, hz7]; rfl, rfl⟩)
        · have hz := Decidable.not_not.1 (of_decide_eq_false hz)
          repeat' (first | refine gg ?_ | exact trivial | with_reducible refine wA ?_ ?_ | refine Y2.mk ?_ ?_ | exact ⟨Nat.le_refl _, (by rw [hk]; exact Nat.le_of_ble_eq_true rfl), Nat.le_of_eq (Nat.zero_add _), (show (_ : Nat) * 8 ≤ 140737488355328 from by omega), (show (_ : Nat) ≤ 9223372036854775807 from by omega)⟩ | refine gh ?_ | exact qq | fail)
          refine pop_msetS (l := 2) mapIS (lF 0 A i) (needS l A (lF 0 A i).toNat).1 hkey rfl rfl rfl rfl rfl rfl rfl (by rw [hk]; exact Nat.zero_le _) rfl rfl ?_
          repeat' (first | refine gg ?_ | exact trivial | with_reducible refine wA ?_ ?_ | refine Y2.mk ?_ ?_ | refine gh ?_ | exact qq | fail)
          rw [hw1]
          exact kloop_next (st' := ⟨[(2, .ptr 0 0 0), (4, .ptr 1 0 0), (7, .ptr 3 0 0), (8, sV A), (25, sV A), (26, vi A.length), (27, vi ((i + 1 : Nat) : Int))], [rA1 nm l, cG (.val (.slice none 0 0)) (.val (.map none)), sRow (mapL l A (nodL l (A.take i) ++ [lF 0 A i])), cG (slP (0 + 1) 4) (.mref 2), vRow c1 1 (0 + 1) (lF 0 (nodL l (A.take i) ++ [lF 0 A i]))]⟩) (A.length - (i + 1)) (can_rowsv [0, 1, 2, 3, 6] (k0_sel hk rfl) rfl (.cons rfl (RowEq.cl (rA1_cl _ _)) (.cons rfl (cG_eq (PEq.refl _) (PEq.refl _)) (.cons rfl (by rw [mapL_snoc]; exact RowEq.cl (s_cl _)) (.cons rfl (cG_eq (PEq.refl _) (PEq.refl _)) (.cons rfl (app_l0 c1_cl hk2 rfl) .nil))))) tmq) (by omega) ⟨i + 1, 0 + 1, by omega, by rw [hS, List.length_append, hk2]; rfl, by rw [hS, List.all_append, hall]; simp [hz], rfl, by rw [hS]⟩
        · have hz := of_decide_eq_true hz
          have hz7 : (needS l A (lF 0 A i).toNat).2 = 7 := by rcases needS_err (l := l) (act := A) (i := (lF 0 A i).toNat) with e | e; exact absurd e hz; exact e
          have hna := gAll_no hxm hcm hz
          repeat' (first | refine gg ?_ | exact trivial | with_reducible refine wA ?_ ?_ | refine Y2.mk ?_ ?_ | refine gh ?_ | exact qq | fail)
          refine xdone ?_
          refine kretr (can_rowsv [1] (tm := [(4, .ptr 0 0 0), (5, vi (needS l A (lF 0 A i).toNat).2)]) (rows := [cG (.val (.slice none 0 0)) (.val (.map none))]) (k0_sel hk rfl) rfl (.cons rfl (cG_eq (PEq.refl _) (PEq.refl _)) .nil) tmq) rfl ⟨Nat.zero_lt_one, trivial, trivial⟩ rfl (.inl ⟨by rw [if_neg hna]; decide, by rw [if_neg hna, hz7]; rfl, rfl⟩)
        · have hz := Decidable.not_not.1 (of_decide_eq_false hz)
          repeat' (first | refine gg ?_ | exact trivial | with_reducible refine wA ?_ ?_ | refine Y2.mk ?_ ?_ | exact ⟨Nat.le_refl _, (by rw [hk]; exact Nat.le_of_ble_eq_true rfl), Nat.le_of_eq (Nat.zero_add _), (show (_ : Nat) * 8 ≤ 140737488355328 from by omega), (show (_ : Nat) ≤ 9223372036854775807 from by omega)⟩ | refine gh ?_ | exact qq | fail)
          refine pop_msetS (l := 2) mapIS (lF 0 A i) (needS l A (lF 0 A i).toNat).1 hkey rfl rfl rfl rfl rfl rfl rfl (by rw [hk]; exact Nat.zero_le _) rfl rfl ?_
          repeat' (first | refine gg ?_ | exact trivial | with_reducible refine wA ?_ ?_ | refine Y2.mk ?_ ?_ | refine gh ?_ | exact qq | fail)
          rw [hw1]
          exact kloop_next (st' := ⟨[(2, .ptr 0 0 0), (4, .ptr 1 0 0), (7, .ptr 3 0 0), (8, sV A), (25, sV A), (26, vi A.length), (27, vi ((i + 1 : Nat) : Int))], [rA1 nm l, cG (.val (.slice none 0 0)) (.val (.map none)), sRow (mapL l A (nodL l (A.take i) ++ [lF 0 A i])), cG (slP (k + 1 + 1) 4) (.mref 2), vRow c1 1 (k + 1 + 1) (lF 0 (nodL l (A.take i) ++ [lF 0 A i]))]⟩) (A.length - (i + 1)) (can_rowsv [0, 1, 2, 3, 6] (k0_sel hk rfl) rfl (.cons rfl (RowEq.cl (rA1_cl _ _)) (.cons rfl (cG_eq (PEq.refl _) (PEq.refl _)) (.cons rfl (by rw [mapL_snoc]; exact RowEq.cl (s_cl _)) (.cons rfl (cG_eq (PEq.refl _) (PEq.refl _)) (.cons rfl (app_l c1_cl hk2 rfl rfl) .nil))))) tmq) (by omega) ⟨i + 1, k + 1 + 1, by omega, by rw [hS, List.length_append, hk2]; rfl, by rw [hS, List.all_append, hall]; simp [hz], rfl, by rw [hS]⟩
    · have hil : i = A.length := by have := of_decide_eq_false hc; omega
      subst hil
      rw [List.take_length] at hk2 hall
      rw [List.take_length]
      rw [if_pos hall]
      rcases k with _ | k
      · repeat' (first | refine gg ?_ | exact trivial | with_reducible refine wA ?_ ?_ | refine Y2.mk ?_ ?_ | refine gh ?_ | exact qq | fail)
        refine xdone ?_
        refine kretr ((can_vmap (one := false) (n := 0) (f := fun _ _ => cS (mapL l A (nodL l A))) 2 (by rw [hk]; exact Nat.zero_le _) rfl (cS_cl _) (tm := [(4, .ptr 1 0 0), (5, vi 0)]) (rows := [rA1 nm l, cG (slP (0) 4) (.vmap (cS (mapL l A (nodL l A)))), deadR, cG (slP (0) 4) (.mref 2), vRow c1 1 (0) (lF 0 (nodL l A))]) (by exact ⟨VM.refl, VM.refl, trivial⟩) (by exact ⟨.inl rfl, .inr ⟨trivial, rfl, rfl, rfl, vm_g⟩, .inl rfl, .inl rfl, .inl rfl, trivial⟩)).trans (can_rowsv [4, 1] (tm := [(4, .ptr 1 0 0), (5, vi 0)]) (rows := [vRow c1 1 (0) (lF 0 (nodL l A)), cG (slP (0) 0) (.vmap (cS (mapL l A (nodL l A))))]) (k0_sel hk rfl) rfl (.cons rfl (RowEq.cl (v_cl c1_cl _ _ _)) (.cons rfl (cG_eq (PEq.refl _) (PEq.cl (.vmap _) trivial)) .nil)) tmq)) rfl ⟨Nat.zero_lt_one, trivial, trivial⟩ rfl (.inr ⟨rfl, 0, hk2, rfl, rfl⟩)
      · repeat' (first | refine gg ?_ | exact trivial | with_reducible refine wA ?_ ?_ | refine Y2.mk ?_ ?_ | refine gh ?_ | exact qq | fail)
        refine xdone ?_
        refine kretr ((can_vmap (one := false) (n := 0) (f := fun _ _ => cS (mapL l A (nodL l A))) 2 (by rw [hk]; exact Nat.zero_le _) rfl (cS_cl _) (tm := [(4, .ptr 1 0 0), (5, vi 0)]) (rows := [rA1 nm l, cG (slP (k + 1) 4) (.vmap (cS (mapL l A (nodL l A)))), deadR, cG (slP (k + 1) 4) (.mref 2), vRow c1 1 (k + 1) (lF 0 (nodL l A))]) (by exact ⟨VM.refl, VM.refl, trivial⟩) (by exact ⟨.inl rfl, .inr ⟨trivial, rfl, rfl, rfl, vm_g⟩, .inl rfl, .inl rfl, .inl rfl, trivial⟩)).trans (can_rowsv [4, 1] (tm := [(4, .ptr 1 0 0), (5, vi 0)]) (rows := [vRow c1 1 (k + 1) (lF 0 (nodL l A)), cG (slP (k + 1) 0) (.vmap (cS (mapL l A (nodL l A))))]) (k0_sel hk rfl) rfl (.cons rfl (RowEq.cl (v_cl c1_cl _ _ _)) (.cons rfl (cG_eq (PEq.refl _) (PEq.cl (.vmap _) trivial)) .nil)) tmq)) rfl ⟨Nat.zero_lt_one, trivial, trivial⟩ rfl (.inr ⟨rfl, k + 1, hk2, rfl, rfl⟩)
end Go.Proofs.YtcefhgomkehokaaGreat
