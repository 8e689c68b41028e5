/- Package ratio and its reference. -/
import Derived.Test.YtdifpajpheemaaaGreatDoorA06
import Derived.Test.YtdifpajpheemaaaGreatDoorA04
set_option linter.unusedSimpArgs false
set_option linter.unusedVariables false
set_option maxRecDepth 100000
namespace Go.Proofs.YtdifpajpheemaaaGreatDoor
theorem fit_g (neg : Bool) (n d g : Int) (h1 : 0 ≤ n) (h2 : n < 18446744073709551616) (h3 : 1 ≤ d) (h4 : d < 18446744073709551616) (hg : 1 ≤ g) (hc : PureC G.P 84 [vu n, vu d] (fun r => r = vu g)) :
    PureC G.P 98 [vb neg, vu n, vu d] (fun r => r = vRE (fitG neg n d g)) := by
  have q1 : 0 ≤ n / g := Int.ediv_nonneg h1 (by omega)
  have q2 : 0 ≤ d / g := Int.ediv_nonneg (by omega) (by omega)
  have q3 : n / g ≤ n := Int.ediv_le_self _ h1
  have q4 : d / g ≤ d := Int.ediv_le_self _ (by omega)
  have t1 : n.tdiv g = n / g := Int.tdiv_eq_ediv_of_nonneg h1
  have t2 : d.tdiv g = d / g := Int.tdiv_eq_ediv_of_nonneg (by omega)
  have hg0 : g ≠ 0 := by omega
  refine pure_of (G := G.toPg) (fn := Tryz.f98) Tryz.func98 rfl rfl rfl ?_; intro Γ hk
  repeat' (first | ((with_reducible (show POps _ _ _ _ (_ :: _) _ _)); (first | refine pop_read rfl rfl rfl rfl trivial ?_ | refine pop_guard rfl rfl rfl rfl rfl qgd ?_ | refine pop_new rfl rfl rfl rfl trivial ?_ | refine pop_store rfl rfl rfl Nat.zero_lt_one ?_ | refine pop_read rfl rfl rfl rfl qrd ?_ | refine pop_read2 rfl rfl rfl rfl trivial ?_ | refine pop_store rfl rfl rfl qst ?_ | refine pop_callv rfl rfl rfl rfl rfl hc rfl rfl rfl ?_ | fail)) | refine pnil ?_ | refine kround_exit ?_ | refine kround_ret ?_ | refine kround_next ?_ | refine kseq_normal ?_ | refine pseq ?_ | refine pregion ?_ | refine pret ?_ | refine kseq_ret ?_ | refine pskip ?_ | refine pblock ?_ | refine pexit ?_ | refine kseq_exit ?_ | refine kblock_hit rfl ?_ | refine kblock_miss rfl ?_ | refine kblock_ret ?_ | refine kblock_normal ?_ | refine kloop_ret ?_ | refine kloop_exit ?_ | refine kcut_ret ?_ | refine kcut_exit ?_ | refine pcond_t rfl ?_ | refine pcond_f rfl ?_ | (with_reducible (show POps _ _ _ _ _ _ _); simp only [List.append_eq, List.cons_append, List.nil_append]))
  (refine any_start [] 8 rfl ?_); (first | refine aT 0 ?_ | refine aT2 0 ?_ | (refine aC 0 ?_ ?_; rotate_left)); (first | refine aT 1 ?_ | refine aT2 1 ?_ | (refine aC 1 ?_ ?_; rotate_left)); (first | refine aT 2 ?_ | refine aT2 2 ?_ | (refine aC 2 ?_ ?_; rotate_left)); (first | refine aT 3 ?_ | refine aT2 3 ?_ | (refine aC 3 ?_ ?_; rotate_left)); (first | refine aT 4 ?_ | refine aT2 4 ?_ | (refine aC 4 ?_ ?_; rotate_left)); (first | refine aT 5 ?_ | refine aT2 5 ?_ | (refine aC 5 ?_ ?_; rotate_left)); (first | refine aT 6 ?_ | refine aT2 6 ?_ | (refine aC 6 ?_ ?_; rotate_left)); (first | refine aT 7 ?_ | refine aT2 7 ?_ | (refine aC 7 ?_ ?_; rotate_left)); (refine any_done (by kernel_rfl) ?_)
  rw [t1, t2, wu64 q1 (by omega), wu64 q2 (by omega)]
  repeat' (first | ((with_reducible (show POps _ _ _ _ (_ :: _) _ _)); (first | refine pop_read rfl rfl rfl rfl trivial ?_ | refine pop_guard rfl rfl rfl rfl rfl qgd ?_ | refine pop_new rfl rfl rfl rfl trivial ?_ | refine pop_store rfl rfl rfl Nat.zero_lt_one ?_ | refine pop_read rfl rfl rfl rfl qrd ?_ | refine pop_read2 rfl rfl rfl rfl trivial ?_ | refine pop_store rfl rfl rfl qst ?_ | fail)) | refine pnil ?_ | refine kround_exit ?_ | refine kround_ret ?_ | refine kround_next ?_ | refine kseq_normal ?_ | refine pseq ?_ | refine pregion ?_ | refine pret ?_ | refine kseq_ret ?_ | refine pskip ?_ | refine pblock ?_ | refine pexit ?_ | refine kseq_exit ?_ | refine kblock_hit rfl ?_ | refine kblock_miss rfl ?_ | refine kblock_ret ?_ | refine kblock_normal ?_ | refine kloop_ret ?_ | refine kloop_exit ?_ | refine kcut_ret ?_ | refine kcut_exit ?_ | refine pcond_t rfl ?_ | refine pcond_f rfl ?_ | (with_reducible (show POps _ _ _ _ _ _ _); simp only [List.append_eq, List.cons_append, List.nil_append]))
  refine pcond rfl ?_ ?_ <;> intro hc1
  · simp at hc1
    repeat' (first | ((with_reducible (show POps _ _ _ _ (_ :: _) _ _)); (first | refine pop_read rfl rfl rfl rfl trivial ?_ | refine pop_guard rfl rfl rfl rfl rfl qgd ?_ | refine pop_new rfl rfl rfl rfl trivial ?_ | refine pop_store rfl rfl rfl Nat.zero_lt_one ?_ | refine pop_read rfl rfl rfl rfl qrd ?_ | refine pop_read2 rfl rfl rfl rfl trivial ?_ | refine pop_store rfl rfl rfl qst ?_ | fail)) | refine pnil ?_ | refine kround_exit ?_ | refine kround_ret ?_ | refine kround_next ?_ | refine kseq_normal ?_ | refine pseq ?_ | refine pregion ?_ | refine pret ?_ | refine kseq_ret ?_ | refine pskip ?_ | refine pblock ?_ | refine pexit ?_ | refine kseq_exit ?_ | refine kblock_hit rfl ?_ | refine kblock_miss rfl ?_ | refine kblock_ret ?_ | refine kblock_normal ?_ | refine kloop_ret ?_ | refine kloop_exit ?_ | refine kcut_ret ?_ | refine kcut_exit ?_ | refine pcond_t rfl ?_ | refine pcond_f rfl ?_ | (with_reducible (show POps _ _ _ _ _ _ _); simp only [List.append_eq, List.cons_append, List.nil_append]))
    refine kretv rfl ⟨Nat.zero_lt_one, trivial, trivial⟩ rfl ?_
    show vRE ((0, 0), 4) = _
    rw [fitG, if_pos hc1]
  · simp at hc1
    repeat' (first | ((with_reducible (show POps _ _ _ _ (_ :: _) _ _)); (first | refine pop_read rfl rfl rfl rfl trivial ?_ | refine pop_guard rfl rfl rfl rfl rfl qgd ?_ | refine pop_new rfl rfl rfl rfl trivial ?_ | refine pop_store rfl rfl rfl Nat.zero_lt_one ?_ | refine pop_read rfl rfl rfl rfl qrd ?_ | refine pop_read2 rfl rfl rfl rfl trivial ?_ | refine pop_store rfl rfl rfl qst ?_ | fail)) | refine pnil ?_ | refine kround_exit ?_ | refine kround_ret ?_ | refine kround_next ?_ | refine kseq_normal ?_ | refine pseq ?_ | refine pregion ?_ | refine pret ?_ | refine kseq_ret ?_ | refine pskip ?_ | refine pblock ?_ | refine pexit ?_ | refine kseq_exit ?_ | refine kblock_hit rfl ?_ | refine kblock_miss rfl ?_ | refine kblock_ret ?_ | refine kblock_normal ?_ | refine kloop_ret ?_ | refine kloop_exit ?_ | refine kcut_ret ?_ | refine kcut_exit ?_ | refine pcond_t rfl ?_ | refine pcond_f rfl ?_ | (with_reducible (show POps _ _ _ _ _ _ _); simp only [List.append_eq, List.cons_append, List.nil_append]))
    refine pcond rfl ?_ ?_ <;> intro hc2
    · subst hc2
      repeat' (first | ((with_reducible (show POps _ _ _ _ (_ :: _) _ _)); (first | refine pop_read rfl rfl rfl rfl trivial ?_ | refine pop_guard rfl rfl rfl rfl rfl qgd ?_ | refine pop_new rfl rfl rfl rfl trivial ?_ | refine pop_store rfl rfl rfl Nat.zero_lt_one ?_ | refine pop_read rfl rfl rfl rfl qrd ?_ | refine pop_read2 rfl rfl rfl rfl trivial ?_ | refine pop_store rfl rfl rfl qst ?_ | fail)) | refine pnil ?_ | refine kround_exit ?_ | refine kround_ret ?_ | refine kround_next ?_ | refine kseq_normal ?_ | refine pseq ?_ | refine pregion ?_ | refine pret ?_ | refine kseq_ret ?_ | refine pskip ?_ | refine pblock ?_ | refine pexit ?_ | refine kseq_exit ?_ | refine kblock_hit rfl ?_ | refine kblock_miss rfl ?_ | refine kblock_ret ?_ | refine kblock_normal ?_ | refine kloop_ret ?_ | refine kloop_exit ?_ | refine kcut_ret ?_ | refine kcut_exit ?_ | refine pcond_t rfl ?_ | refine pcond_f rfl ?_ | (with_reducible (show POps _ _ _ _ _ _ _); simp only [List.append_eq, List.cons_append, List.nil_append]))
      refine kretv rfl ⟨Nat.zero_lt_one, trivial, trivial⟩ rfl ?_
      rw [w64 (n := n / g) (by omega) (by omega), w64 (n := d / g) (by omega) (by omega), w64 (by omega) (by omega)]
      show vRE ((0 - n / g, d / g), 0) = _
      rw [fitG, if_neg (by omega), Int.zero_sub]; rfl
    · subst hc2
      repeat' (first | ((with_reducible (show POps _ _ _ _ (_ :: _) _ _)); (first | refine pop_read rfl rfl rfl rfl trivial ?_ | refine pop_guard rfl rfl rfl rfl rfl qgd ?_ | refine pop_new rfl rfl rfl rfl trivial ?_ | refine pop_store rfl rfl rfl Nat.zero_lt_one ?_ | refine pop_read rfl rfl rfl rfl qrd ?_ | refine pop_read2 rfl rfl rfl rfl trivial ?_ | refine pop_store rfl rfl rfl qst ?_ | fail)) | refine pnil ?_ | refine kround_exit ?_ | refine kround_ret ?_ | refine kround_next ?_ | refine kseq_normal ?_ | refine pseq ?_ | refine pregion ?_ | refine pret ?_ | refine kseq_ret ?_ | refine pskip ?_ | refine pblock ?_ | refine pexit ?_ | refine kseq_exit ?_ | refine kblock_hit rfl ?_ | refine kblock_miss rfl ?_ | refine kblock_ret ?_ | refine kblock_normal ?_ | refine kloop_ret ?_ | refine kloop_exit ?_ | refine kcut_ret ?_ | refine kcut_exit ?_ | refine pcond_t rfl ?_ | refine pcond_f rfl ?_ | (with_reducible (show POps _ _ _ _ _ _ _); simp only [List.append_eq, List.cons_append, List.nil_append]))
      refine kretv rfl ⟨Nat.zero_lt_one, trivial, trivial⟩ rfl ?_
      rw [w64 (n := n / g) (by omega) (by omega), w64 (n := d / g) (by omega) (by omega)]
      show vRE ((n / g, d / g), 0) = _
      rw [fitG, if_neg (by omega)]; rfl
theorem fit_c (neg : Bool) (n d : Int) (h1 : 0 ≤ n) (h2 : n < 18446744073709551616) (h3 : 1 ≤ d) (h4 : d < 18446744073709551616) :
    PureC G.P 98 [vb neg, vu n, vu d] (fun r => r = vRE (fitS neg n d)) :=
  fit_g neg n d _ h1 h2 h3 h4 (gcd_pos h3) (gcdI_c n d h1 h2 (by omega) h4)
theorem ratioNew_c (n d : Int) (h1 : -9223372036854775808 ≤ n) (h2 : n ≤ 9223372036854775807) (h3 : -9223372036854775808 ≤ d) (h4 : d ≤ 9223372036854775807) : PureC G.P 66 [vi n, vi d] (fun r => r = vRE (newS n d)) := by
  refine pure_of (G := G.toPg) (fn := Tryz.f66) Tryz.func66 rfl rfl rfl ?_; intro Γ hk
  repeat' (first | ((with_reducible (show POps _ _ _ _ (_ :: _) _ _)); (first | refine pop_read rfl rfl rfl rfl trivial ?_ | refine pop_guard rfl rfl rfl rfl rfl qgd ?_ | refine pop_new rfl rfl rfl rfl trivial ?_ | refine pop_store rfl rfl rfl Nat.zero_lt_one ?_ | refine pop_read rfl rfl rfl rfl qrd ?_ | refine pop_read2 rfl rfl rfl rfl trivial ?_ | refine pop_store rfl rfl rfl qst ?_ | fail)) | refine pnil ?_ | refine kround_exit ?_ | refine kround_ret ?_ | refine kround_next ?_ | refine kseq_normal ?_ | refine pseq ?_ | refine pregion ?_ | refine pret ?_ | refine kseq_ret ?_ | refine pskip ?_ | refine pblock ?_ | refine pexit ?_ | refine kseq_exit ?_ | refine kblock_hit rfl ?_ | refine kblock_miss rfl ?_ | refine kblock_ret ?_ | refine kblock_normal ?_ | refine kloop_ret ?_ | refine kloop_exit ?_ | refine kcut_ret ?_ | refine kcut_exit ?_ | refine pcond_t rfl ?_ | refine pcond_f rfl ?_ | (with_reducible (show POps _ _ _ _ _ _ _); simp only [List.append_eq, List.cons_append, List.nil_append]))
  refine pcond rfl ?_ ?_ <;> intro hc
  · simp at hc
    subst hc
    repeat' (first | ((with_reducible (show POps _ _ _ _ (_ :: _) _ _)); (first | refine pop_read rfl rfl rfl rfl trivial ?_ | refine pop_guard rfl rfl rfl rfl rfl qgd ?_ | refine pop_new rfl rfl rfl rfl trivial ?_ | refine pop_store rfl rfl rfl Nat.zero_lt_one ?_ | refine pop_read rfl rfl rfl rfl qrd ?_ | refine pop_read2 rfl rfl rfl rfl trivial ?_ | refine pop_store rfl rfl rfl qst ?_ | fail)) | refine pnil ?_ | refine kround_exit ?_ | refine kround_ret ?_ | refine kround_next ?_ | refine kseq_normal ?_ | refine pseq ?_ | refine pregion ?_ | refine pret ?_ | refine kseq_ret ?_ | refine pskip ?_ | refine pblock ?_ | refine pexit ?_ | refine kseq_exit ?_ | refine kblock_hit rfl ?_ | refine kblock_miss rfl ?_ | refine kblock_ret ?_ | refine kblock_normal ?_ | refine kloop_ret ?_ | refine kloop_exit ?_ | refine kcut_ret ?_ | refine kcut_exit ?_ | refine pcond_t rfl ?_ | refine pcond_f rfl ?_ | (with_reducible (show POps _ _ _ _ _ _ _); simp only [List.append_eq, List.cons_append, List.nil_append]))
    refine kretv rfl ⟨Nat.zero_lt_one, trivial, trivial⟩ rfl ?_
    rfl
  · simp at hc
    repeat' (first | ((with_reducible (show POps _ _ _ _ (_ :: _) _ _)); (first | refine pop_read rfl rfl rfl rfl trivial ?_ | refine pop_guard rfl rfl rfl rfl rfl qgd ?_ | refine pop_new rfl rfl rfl rfl trivial ?_ | refine pop_store rfl rfl rfl Nat.zero_lt_one ?_ | refine pop_read rfl rfl rfl rfl qrd ?_ | refine pop_read2 rfl rfl rfl rfl trivial ?_ | refine pop_store rfl rfl rfl qst ?_ | refine pop_callv rfl rfl rfl rfl rfl (magnitude_c _ (by assumption) (by assumption)) rfl rfl rfl ?_ | refine pop_callv rfl rfl rfl rfl rfl (fit_c _ _ _ (by omega) (by omega) (by omega) (by omega)) rfl rfl rfl ?_ | fail)) | refine pnil ?_ | refine kround_exit ?_ | refine kround_ret ?_ | refine kround_next ?_ | refine kseq_normal ?_ | refine pseq ?_ | refine pregion ?_ | refine pret ?_ | refine kseq_ret ?_ | refine pskip ?_ | refine pblock ?_ | refine pexit ?_ | refine kseq_exit ?_ | refine kblock_hit rfl ?_ | refine kblock_miss rfl ?_ | refine kblock_ret ?_ | refine kblock_normal ?_ | refine kloop_ret ?_ | refine kloop_exit ?_ | refine kcut_ret ?_ | refine kcut_exit ?_ | refine pcond_t rfl ?_ | refine pcond_f rfl ?_ | (with_reducible (show POps _ _ _ _ _ _ _); simp only [List.append_eq, List.cons_append, List.nil_append]))
    refine kretv rfl ⟨Nat.zero_lt_one, trivial, trivial⟩ rfl ?_
    rw [newS, if_neg hc]; rfl
theorem ratioAdd_c (a b c d : Int) (h1 : -9223372036854775808 ≤ a) (h2 : a ≤ 9223372036854775807) (h3 : -9223372036854775808 ≤ c) (h4 : c ≤ 9223372036854775807) : PureC G.P 59 [vr a b, vr c d] (fun r => r = vRE (addR a b c d)) := by
  refine pure_of (G := G.toPg) (fn := Tryz.f59) Tryz.func59 rfl rfl rfl ?_; intro Γ hk
  repeat' (first | ((with_reducible (show POps _ _ _ _ (_ :: _) _ _)); (first | refine pop_read rfl rfl rfl rfl trivial ?_ | refine pop_guard rfl rfl rfl rfl rfl qgd ?_ | refine pop_new rfl rfl rfl rfl trivial ?_ | refine pop_store rfl rfl rfl Nat.zero_lt_one ?_ | refine pop_read rfl rfl rfl rfl qrd ?_ | refine pop_read2 rfl rfl rfl rfl trivial ?_ | refine pop_store rfl rfl rfl qst ?_ | refine pop_callv rfl rfl rfl rfl rfl (ratioValid_c _ _ (by assumption) (by assumption)) rfl rfl rfl ?_ | (refine pop_callgv rfl rfl rfl rfl rfl rfl (fun _ => ratioValid_c _ _ (by assumption) (by assumption)) ?_ rfl rfl rfl ?_; (exact fun h => ⟨h, trivial⟩)) | fail)) | refine pnil ?_ | refine kround_exit ?_ | refine kround_ret ?_ | refine kround_next ?_ | refine kseq_normal ?_ | refine pseq ?_ | refine pregion ?_ | refine pret ?_ | refine kseq_ret ?_ | refine pskip ?_ | refine pblock ?_ | refine pexit ?_ | refine kseq_exit ?_ | refine kblock_hit rfl ?_ | refine kblock_miss rfl ?_ | refine kblock_ret ?_ | refine kblock_normal ?_ | refine kloop_ret ?_ | refine kloop_exit ?_ | refine kcut_ret ?_ | refine kcut_exit ?_ | refine pcond_t rfl ?_ | refine pcond_f rfl ?_ | (with_reducible (show POps _ _ _ _ _ _ _); simp only [List.append_eq, List.cons_append, List.nil_append]))
  refine pcond rfl ?_ ?_ <;> intro hc
  · repeat' (first | ((with_reducible (show POps _ _ _ _ (_ :: _) _ _)); (first | refine pop_read rfl rfl rfl rfl trivial ?_ | refine pop_guard rfl rfl rfl rfl rfl qgd ?_ | refine pop_new rfl rfl rfl rfl trivial ?_ | refine pop_store rfl rfl rfl Nat.zero_lt_one ?_ | refine pop_read rfl rfl rfl rfl qrd ?_ | refine pop_read2 rfl rfl rfl rfl trivial ?_ | refine pop_store rfl rfl rfl qst ?_ | fail)) | refine pnil ?_ | refine kround_exit ?_ | refine kround_ret ?_ | refine kround_next ?_ | refine kseq_normal ?_ | refine pseq ?_ | refine pregion ?_ | refine pret ?_ | refine kseq_ret ?_ | refine pskip ?_ | refine pblock ?_ | refine pexit ?_ | refine kseq_exit ?_ | refine kblock_hit rfl ?_ | refine kblock_miss rfl ?_ | refine kblock_ret ?_ | refine kblock_normal ?_ | refine kloop_ret ?_ | refine kloop_exit ?_ | refine kcut_ret ?_ | refine kcut_exit ?_ | refine pcond_t rfl ?_ | refine pcond_f rfl ?_ | (with_reducible (show POps _ _ _ _ _ _ _); simp only [List.append_eq, List.cons_append, List.nil_append]))
    refine kretv rfl ⟨Nat.zero_lt_one, trivial, trivial⟩ rfl ?_
    rw [addR, if_neg (by cases k1 : okR a b <;> cases k2 : okR c d <;> simp_all)]; rfl
  · have hk : okR a b = true ∧ okR c d = true := by cases k1 : okR a b <;> cases k2 : okR c d <;> simp_all
    obtain ⟨k1, k2⟩ := hk
    obtain ⟨r1, r2, r3, r4⟩ := okR_bd k1
    obtain ⟨s1, s2, s3, s4⟩ := okR_bd k2
    obtain ⟨t1, t2⟩ := mul_bd r3 r4 s1 s2
    obtain ⟨u1, u2⟩ := mul_bd s3 s4 r1 r2
    obtain ⟨v1, v2⟩ := mul_pos' r1 r2 s1 s2
    repeat' (first | ((with_reducible (show POps _ _ _ _ (_ :: _) _ _)); (first | refine pop_read rfl rfl rfl rfl trivial ?_ | refine pop_guard rfl rfl rfl rfl rfl qgd ?_ | refine pop_new rfl rfl rfl rfl trivial ?_ | refine pop_store rfl rfl rfl Nat.zero_lt_one ?_ | refine pop_read rfl rfl rfl rfl qrd ?_ | refine pop_read2 rfl rfl rfl rfl trivial ?_ | refine pop_store rfl rfl rfl qst ?_ | fail)) | refine pnil ?_ | refine kround_exit ?_ | refine kround_ret ?_ | refine kround_next ?_ | refine kseq_normal ?_ | refine pseq ?_ | refine pregion ?_ | refine pret ?_ | refine kseq_ret ?_ | refine pskip ?_ | refine pblock ?_ | refine pexit ?_ | refine kseq_exit ?_ | refine kblock_hit rfl ?_ | refine kblock_miss rfl ?_ | refine kblock_ret ?_ | refine kblock_normal ?_ | refine kloop_ret ?_ | refine kloop_exit ?_ | refine kcut_ret ?_ | refine kcut_exit ?_ | refine pcond_t rfl ?_ | refine pcond_f rfl ?_ | (with_reducible (show POps _ _ _ _ _ _ _); simp only [List.append_eq, List.cons_append, List.nil_append]))
    rw [w64 (n := a * d) (by omega) (by omega), w64 (n := c * b) (by omega) (by omega), w64 (n := b * d) (by omega) (by omega), w64 (n := a * d + c * b) (by omega) (by omega)]
    repeat' (first | ((with_reducible (show POps _ _ _ _ (_ :: _) _ _)); (first | refine pop_read rfl rfl rfl rfl trivial ?_ | refine pop_guard rfl rfl rfl rfl rfl qgd ?_ | refine pop_new rfl rfl rfl rfl trivial ?_ | refine pop_store rfl rfl rfl Nat.zero_lt_one ?_ | refine pop_read rfl rfl rfl rfl qrd ?_ | refine pop_read2 rfl rfl rfl rfl trivial ?_ | refine pop_store rfl rfl rfl qst ?_ | refine pop_callv rfl rfl rfl rfl rfl (ratioNew_c _ _ (by omega) (by omega) (by omega) (by omega)) rfl rfl rfl ?_ | fail)) | refine pnil ?_ | refine kround_exit ?_ | refine kround_ret ?_ | refine kround_next ?_ | refine kseq_normal ?_ | refine pseq ?_ | refine pregion ?_ | refine pret ?_ | refine kseq_ret ?_ | refine pskip ?_ | refine pblock ?_ | refine pexit ?_ | refine kseq_exit ?_ | refine kblock_hit rfl ?_ | refine kblock_miss rfl ?_ | refine kblock_ret ?_ | refine kblock_normal ?_ | refine kloop_ret ?_ | refine kloop_exit ?_ | refine kcut_ret ?_ | refine kcut_exit ?_ | refine pcond_t rfl ?_ | refine pcond_f rfl ?_ | (with_reducible (show POps _ _ _ _ _ _ _); simp only [List.append_eq, List.cons_append, List.nil_append]))
    refine kretv rfl ⟨Nat.zero_lt_one, trivial, trivial⟩ rfl ?_
    rw [addR, if_pos (by simp [k1, k2])]; rfl
theorem ratioSub_c (a b c d : Int) (h1 : -9223372036854775808 ≤ a) (h2 : a ≤ 9223372036854775807) (h3 : -9223372036854775808 ≤ c) (h4 : c ≤ 9223372036854775807) : PureC G.P 67 [vr a b, vr c d] (fun r => r = vRE (subR a b c d)) := by
  refine pure_of (G := G.toPg) (fn := Tryz.f67) Tryz.func67 rfl rfl rfl ?_; intro Γ hk
  repeat' (first | ((with_reducible (show POps _ _ _ _ (_ :: _) _ _)); (first | refine pop_read rfl rfl rfl rfl trivial ?_ | refine pop_guard rfl rfl rfl rfl rfl qgd ?_ | refine pop_new rfl rfl rfl rfl trivial ?_ | refine pop_store rfl rfl rfl Nat.zero_lt_one ?_ | refine pop_read rfl rfl rfl rfl qrd ?_ | refine pop_read2 rfl rfl rfl rfl trivial ?_ | refine pop_store rfl rfl rfl qst ?_ | refine pop_callv rfl rfl rfl rfl rfl (ratioValid_c _ _ (by assumption) (by assumption)) rfl rfl rfl ?_ | (refine pop_callgv rfl rfl rfl rfl rfl rfl (fun _ => ratioValid_c _ _ (by assumption) (by assumption)) ?_ rfl rfl rfl ?_; (exact fun h => ⟨h, trivial⟩)) | fail)) | refine pnil ?_ | refine kround_exit ?_ | refine kround_ret ?_ | refine kround_next ?_ | refine kseq_normal ?_ | refine pseq ?_ | refine pregion ?_ | refine pret ?_ | refine kseq_ret ?_ | refine pskip ?_ | refine pblock ?_ | refine pexit ?_ | refine kseq_exit ?_ | refine kblock_hit rfl ?_ | refine kblock_miss rfl ?_ | refine kblock_ret ?_ | refine kblock_normal ?_ | refine kloop_ret ?_ | refine kloop_exit ?_ | refine kcut_ret ?_ | refine kcut_exit ?_ | refine pcond_t rfl ?_ | refine pcond_f rfl ?_ | (with_reducible (show POps _ _ _ _ _ _ _); simp only [List.append_eq, List.cons_append, List.nil_append]))
  refine pcond rfl ?_ ?_ <;> intro hc
  · repeat' (first | ((with_reducible (show POps _ _ _ _ (_ :: _) _ _)); (first | refine pop_read rfl rfl rfl rfl trivial ?_ | refine pop_guard rfl rfl rfl rfl rfl qgd ?_ | refine pop_new rfl rfl rfl rfl trivial ?_ | refine pop_store rfl rfl rfl Nat.zero_lt_one ?_ | refine pop_read rfl rfl rfl rfl qrd ?_ | refine pop_read2 rfl rfl rfl rfl trivial ?_ | refine pop_store rfl rfl rfl qst ?_ | fail)) | refine pnil ?_ | refine kround_exit ?_ | refine kround_ret ?_ | refine kround_next ?_ | refine kseq_normal ?_ | refine pseq ?_ | refine pregion ?_ | refine pret ?_ | refine kseq_ret ?_ | refine pskip ?_ | refine pblock ?_ | refine pexit ?_ | refine kseq_exit ?_ | refine kblock_hit rfl ?_ | refine kblock_miss rfl ?_ | refine kblock_ret ?_ | refine kblock_normal ?_ | refine kloop_ret ?_ | refine kloop_exit ?_ | refine kcut_ret ?_ | refine kcut_exit ?_ | refine pcond_t rfl ?_ | refine pcond_f rfl ?_ | (with_reducible (show POps _ _ _ _ _ _ _); simp only [List.append_eq, List.cons_append, List.nil_append]))
    refine kretv rfl ⟨Nat.zero_lt_one, trivial, trivial⟩ rfl ?_
    rw [subR, if_neg (by cases k1 : okR a b <;> cases k2 : okR c d <;> simp_all)]; rfl
  · have hk : okR a b = true ∧ okR c d = true := by cases k1 : okR a b <;> cases k2 : okR c d <;> simp_all
    obtain ⟨k1, k2⟩ := hk
    obtain ⟨r1, r2, r3, r4⟩ := okR_bd k1
    obtain ⟨s1, s2, s3, s4⟩ := okR_bd k2
    obtain ⟨t1, t2⟩ := mul_bd r3 r4 s1 s2
    obtain ⟨u1, u2⟩ := mul_bd s3 s4 r1 r2
    obtain ⟨v1, v2⟩ := mul_pos' r1 r2 s1 s2
    repeat' (first | ((with_reducible (show POps _ _ _ _ (_ :: _) _ _)); (first | refine pop_read rfl rfl rfl rfl trivial ?_ | refine pop_guard rfl rfl rfl rfl rfl qgd ?_ | refine pop_new rfl rfl rfl rfl trivial ?_ | refine pop_store rfl rfl rfl Nat.zero_lt_one ?_ | refine pop_read rfl rfl rfl rfl qrd ?_ | refine pop_read2 rfl rfl rfl rfl trivial ?_ | refine pop_store rfl rfl rfl qst ?_ | fail)) | refine pnil ?_ | refine kround_exit ?_ | refine kround_ret ?_ | refine kround_next ?_ | refine kseq_normal ?_ | refine pseq ?_ | refine pregion ?_ | refine pret ?_ | refine kseq_ret ?_ | refine pskip ?_ | refine pblock ?_ | refine pexit ?_ | refine kseq_exit ?_ | refine kblock_hit rfl ?_ | refine kblock_miss rfl ?_ | refine kblock_ret ?_ | refine kblock_normal ?_ | refine kloop_ret ?_ | refine kloop_exit ?_ | refine kcut_ret ?_ | refine kcut_exit ?_ | refine pcond_t rfl ?_ | refine pcond_f rfl ?_ | (with_reducible (show POps _ _ _ _ _ _ _); simp only [List.append_eq, List.cons_append, List.nil_append]))
    rw [w64 (n := a * d) (by omega) (by omega), w64 (n := c * b) (by omega) (by omega), w64 (n := b * d) (by omega) (by omega), w64 (n := a * d - c * b) (by omega) (by omega)]
    repeat' (first | ((with_reducible (show POps _ _ _ _ (_ :: _) _ _)); (first | refine pop_read rfl rfl rfl rfl trivial ?_ | refine pop_guard rfl rfl rfl rfl rfl qgd ?_ | refine pop_new rfl rfl rfl rfl trivial ?_ | refine pop_store rfl rfl rfl Nat.zero_lt_one ?_ | refine pop_read rfl rfl rfl rfl qrd ?_ | refine pop_read2 rfl rfl rfl rfl trivial ?_ | refine pop_store rfl rfl rfl qst ?_ | refine pop_callv rfl rfl rfl rfl rfl (ratioNew_c _ _ (by omega) (by omega) (by omega) (by omega)) rfl rfl rfl ?_ | fail)) | refine pnil ?_ | refine kround_exit ?_ | refine kround_ret ?_ | refine kround_next ?_ | refine kseq_normal ?_ | refine pseq ?_ | refine pregion ?_ | refine pret ?_ | refine kseq_ret ?_ | refine pskip ?_ | refine pblock ?_ | refine pexit ?_ | refine kseq_exit ?_ | refine kblock_hit rfl ?_ | refine kblock_miss rfl ?_ | refine kblock_ret ?_ | refine kblock_normal ?_ | refine kloop_ret ?_ | refine kloop_exit ?_ | refine kcut_ret ?_ | refine kcut_exit ?_ | refine pcond_t rfl ?_ | refine pcond_f rfl ?_ | (with_reducible (show POps _ _ _ _ _ _ _); simp only [List.append_eq, List.cons_append, List.nil_append]))
    refine kretv rfl ⟨Nat.zero_lt_one, trivial, trivial⟩ rfl ?_
    rw [subR, if_pos (by simp [k1, k2])]; rfl
theorem ratioCompare_c (a b c d : Int) (h1 : -9223372036854775808 ≤ a) (h2 : a ≤ 9223372036854775807) (h3 : -9223372036854775808 ≤ c) (h4 : c ≤ 9223372036854775807) : PureC G.P 56 [vr a b, vr c d] (fun r => r = vi (cmpR a b c d)) := by
  refine pure_of (G := G.toPg) (fn := Tryz.f56) Tryz.func56 rfl rfl rfl ?_; intro Γ hk
  repeat' (first | ((with_reducible (show POps _ _ _ _ (_ :: _) _ _)); (first | refine pop_read rfl rfl rfl rfl trivial ?_ | refine pop_guard rfl rfl rfl rfl rfl qgd ?_ | refine pop_new rfl rfl rfl rfl trivial ?_ | refine pop_store rfl rfl rfl Nat.zero_lt_one ?_ | refine pop_read rfl rfl rfl rfl qrd ?_ | refine pop_read2 rfl rfl rfl rfl trivial ?_ | refine pop_store rfl rfl rfl qst ?_ | refine pop_callv rfl rfl rfl rfl rfl (ratioValid_c _ _ (by assumption) (by assumption)) rfl rfl rfl ?_ | (refine pop_callgv rfl rfl rfl rfl rfl rfl (fun _ => ratioValid_c _ _ (by assumption) (by assumption)) ?_ rfl rfl rfl ?_; (exact fun h => ⟨h, trivial⟩)) | fail)) | refine pnil ?_ | refine kround_exit ?_ | refine kround_ret ?_ | refine kround_next ?_ | refine kseq_normal ?_ | refine pseq ?_ | refine pregion ?_ | refine pret ?_ | refine kseq_ret ?_ | refine pskip ?_ | refine pblock ?_ | refine pexit ?_ | refine kseq_exit ?_ | refine kblock_hit rfl ?_ | refine kblock_miss rfl ?_ | refine kblock_ret ?_ | refine kblock_normal ?_ | refine kloop_ret ?_ | refine kloop_exit ?_ | refine kcut_ret ?_ | refine kcut_exit ?_ | refine pcond_t rfl ?_ | refine pcond_f rfl ?_ | (with_reducible (show POps _ _ _ _ _ _ _); simp only [List.append_eq, List.cons_append, List.nil_append]))
  refine pcond rfl ?_ ?_ <;> intro hc
  · repeat' (first | ((with_reducible (show POps _ _ _ _ (_ :: _) _ _)); (first | refine pop_read rfl rfl rfl rfl trivial ?_ | refine pop_guard rfl rfl rfl rfl rfl qgd ?_ | refine pop_new rfl rfl rfl rfl trivial ?_ | refine pop_store rfl rfl rfl Nat.zero_lt_one ?_ | refine pop_read rfl rfl rfl rfl qrd ?_ | refine pop_read2 rfl rfl rfl rfl trivial ?_ | refine pop_store rfl rfl rfl qst ?_ | fail)) | refine pnil ?_ | refine kround_exit ?_ | refine kround_ret ?_ | refine kround_next ?_ | refine kseq_normal ?_ | refine pseq ?_ | refine pregion ?_ | refine pret ?_ | refine kseq_ret ?_ | refine pskip ?_ | refine pblock ?_ | refine pexit ?_ | refine kseq_exit ?_ | refine kblock_hit rfl ?_ | refine kblock_miss rfl ?_ | refine kblock_ret ?_ | refine kblock_normal ?_ | refine kloop_ret ?_ | refine kloop_exit ?_ | refine kcut_ret ?_ | refine kcut_exit ?_ | refine pcond_t rfl ?_ | refine pcond_f rfl ?_ | (with_reducible (show POps _ _ _ _ _ _ _); simp only [List.append_eq, List.cons_append, List.nil_append]))
    refine kretv rfl ⟨trivial, trivial⟩ rfl (eqI ?_)
    rw [cmpR, if_neg (by cases k1 : okR a b <;> cases k2 : okR c d <;> simp_all)]
  · have hk : okR a b = true ∧ okR c d = true := by cases k1 : okR a b <;> cases k2 : okR c d <;> simp_all
    obtain ⟨k1, k2⟩ := hk
    obtain ⟨r1, r2, r3, r4⟩ := okR_bd k1
    obtain ⟨s1, s2, s3, s4⟩ := okR_bd k2
    obtain ⟨t1, t2⟩ := mul_bd r3 r4 s1 s2
    obtain ⟨u1, u2⟩ := mul_bd s3 s4 r1 r2
    repeat' (first | ((with_reducible (show POps _ _ _ _ (_ :: _) _ _)); (first | refine pop_read rfl rfl rfl rfl trivial ?_ | refine pop_guard rfl rfl rfl rfl rfl qgd ?_ | refine pop_new rfl rfl rfl rfl trivial ?_ | refine pop_store rfl rfl rfl Nat.zero_lt_one ?_ | refine pop_read rfl rfl rfl rfl qrd ?_ | refine pop_read2 rfl rfl rfl rfl trivial ?_ | refine pop_store rfl rfl rfl qst ?_ | fail)) | refine pnil ?_ | refine kround_exit ?_ | refine kround_ret ?_ | refine kround_next ?_ | refine kseq_normal ?_ | refine pseq ?_ | refine pregion ?_ | refine pret ?_ | refine kseq_ret ?_ | refine pskip ?_ | refine pblock ?_ | refine pexit ?_ | refine kseq_exit ?_ | refine kblock_hit rfl ?_ | refine kblock_miss rfl ?_ | refine kblock_ret ?_ | refine kblock_normal ?_ | refine kloop_ret ?_ | refine kloop_exit ?_ | refine kcut_ret ?_ | refine kcut_exit ?_ | refine pcond_t rfl ?_ | refine pcond_f rfl ?_ | (with_reducible (show POps _ _ _ _ _ _ _); simp only [List.append_eq, List.cons_append, List.nil_append]))
    (refine any_start [0,1] 12 rfl ?_); (first | refine aT 0 ?_ | refine aT2 0 ?_ | (refine aC 0 ?_ ?_; rotate_left)); (first | refine aT 1 ?_ | refine aT2 1 ?_ | (refine aC 1 ?_ ?_; rotate_left)); (first | refine aT 2 ?_ | refine aT2 2 ?_ | (refine aC 2 ?_ ?_; rotate_left)); (first | refine aT 3 ?_ | refine aT2 3 ?_ | (refine aC 3 ?_ ?_; rotate_left)); (first | refine aT 4 ?_ | refine aT2 4 ?_ | (refine aC 4 ?_ ?_; rotate_left)); (first | refine aT 5 ?_ | refine aT2 5 ?_ | (refine aC 5 ?_ ?_; rotate_left)); (first | refine aT 6 ?_ | refine aT2 6 ?_ | (refine aC 6 ?_ ?_; rotate_left)); (first | refine aT 7 ?_ | refine aT2 7 ?_ | (refine aC 7 ?_ ?_; rotate_left)); (first | refine aT 8 ?_ | refine aT2 8 ?_ | (refine aC 8 ?_ ?_; rotate_left)); (first | refine aT 9 ?_ | refine aT2 9 ?_ | (refine aC 9 ?_ ?_; rotate_left)); (first | refine aT 10 ?_ | refine aT2 10 ?_ | (refine aC 10 ?_ ?_; rotate_left)); (first | refine aT 11 ?_ | refine aT2 11 ?_ | (refine aC 11 ?_ ?_; rotate_left)); (refine any_done (by kernel_rfl) ?_)
    rw [w64 (n := a * d) (by omega) (by omega), w64 (n := c * b) (by omega) (by omega)]
    repeat' (first | ((with_reducible (show POps _ _ _ _ (_ :: _) _ _)); (first | refine pop_read rfl rfl rfl rfl trivial ?_ | refine pop_guard rfl rfl rfl rfl rfl qgd ?_ | refine pop_new rfl rfl rfl rfl trivial ?_ | refine pop_store rfl rfl rfl Nat.zero_lt_one ?_ | refine pop_read rfl rfl rfl rfl qrd ?_ | refine pop_read2 rfl rfl rfl rfl trivial ?_ | refine pop_store rfl rfl rfl qst ?_ | fail)) | refine pnil ?_ | refine kround_exit ?_ | refine kround_ret ?_ | refine kround_next ?_ | refine kseq_normal ?_ | refine pseq ?_ | refine pregion ?_ | refine pret ?_ | refine kseq_ret ?_ | refine pskip ?_ | refine pblock ?_ | refine pexit ?_ | refine kseq_exit ?_ | refine kblock_hit rfl ?_ | refine kblock_miss rfl ?_ | refine kblock_ret ?_ | refine kblock_normal ?_ | refine kloop_ret ?_ | refine kloop_exit ?_ | refine kcut_ret ?_ | refine kcut_exit ?_ | refine pcond_t rfl ?_ | refine pcond_f rfl ?_ | (with_reducible (show POps _ _ _ _ _ _ _); simp only [List.append_eq, List.cons_append, List.nil_append]))
    refine pcond rfl ?_ ?_ <;> intro hc1
    · simp at hc1
      repeat' (first | ((with_reducible (show POps _ _ _ _ (_ :: _) _ _)); (first | refine pop_read rfl rfl rfl rfl trivial ?_ | refine pop_guard rfl rfl rfl rfl rfl qgd ?_ | refine pop_new rfl rfl rfl rfl trivial ?_ | refine pop_store rfl rfl rfl Nat.zero_lt_one ?_ | refine pop_read rfl rfl rfl rfl qrd ?_ | refine pop_read2 rfl rfl rfl rfl trivial ?_ | refine pop_store rfl rfl rfl qst ?_ | fail)) | refine pnil ?_ | refine kround_exit ?_ | refine kround_ret ?_ | refine kround_next ?_ | refine kseq_normal ?_ | refine pseq ?_ | refine pregion ?_ | refine pret ?_ | refine kseq_ret ?_ | refine pskip ?_ | refine pblock ?_ | refine pexit ?_ | refine kseq_exit ?_ | refine kblock_hit rfl ?_ | refine kblock_miss rfl ?_ | refine kblock_ret ?_ | refine kblock_normal ?_ | refine kloop_ret ?_ | refine kloop_exit ?_ | refine kcut_ret ?_ | refine kcut_exit ?_ | refine pcond_t rfl ?_ | refine pcond_f rfl ?_ | (with_reducible (show POps _ _ _ _ _ _ _); simp only [List.append_eq, List.cons_append, List.nil_append]))
      refine kretv rfl ⟨trivial, trivial⟩ rfl (eqI ?_)
      rw [cmpR, if_pos (by simp [k1, k2]), if_pos hc1]
    · simp at hc1
      repeat' (first | ((with_reducible (show POps _ _ _ _ (_ :: _) _ _)); (first | refine pop_read rfl rfl rfl rfl trivial ?_ | refine pop_guard rfl rfl rfl rfl rfl qgd ?_ | refine pop_new rfl rfl rfl rfl trivial ?_ | refine pop_store rfl rfl rfl Nat.zero_lt_one ?_ | refine pop_read rfl rfl rfl rfl qrd ?_ | refine pop_read2 rfl rfl rfl rfl trivial ?_ | refine pop_store rfl rfl rfl qst ?_ | fail)) | refine pnil ?_ | refine kround_exit ?_ | refine kround_ret ?_ | refine kround_next ?_ | refine kseq_normal ?_ | refine pseq ?_ | refine pregion ?_ | refine pret ?_ | refine kseq_ret ?_ | refine pskip ?_ | refine pblock ?_ | refine pexit ?_ | refine kseq_exit ?_ | refine kblock_hit rfl ?_ | refine kblock_miss rfl ?_ | refine kblock_ret ?_ | refine kblock_normal ?_ | refine kloop_ret ?_ | refine kloop_exit ?_ | refine kcut_ret ?_ | refine kcut_exit ?_ | refine pcond_t rfl ?_ | refine pcond_f rfl ?_ | (with_reducible (show POps _ _ _ _ _ _ _); simp only [List.append_eq, List.cons_append, List.nil_append]))
      refine pcond rfl ?_ ?_ <;> intro hc2
      · simp at hc2
        repeat' (first | ((with_reducible (show POps _ _ _ _ (_ :: _) _ _)); (first | refine pop_read rfl rfl rfl rfl trivial ?_ | refine pop_guard rfl rfl rfl rfl rfl qgd ?_ | refine pop_new rfl rfl rfl rfl trivial ?_ | refine pop_store rfl rfl rfl Nat.zero_lt_one ?_ | refine pop_read rfl rfl rfl rfl qrd ?_ | refine pop_read2 rfl rfl rfl rfl trivial ?_ | refine pop_store rfl rfl rfl qst ?_ | fail)) | refine pnil ?_ | refine kround_exit ?_ | refine kround_ret ?_ | refine kround_next ?_ | refine kseq_normal ?_ | refine pseq ?_ | refine pregion ?_ | refine pret ?_ | refine kseq_ret ?_ | refine pskip ?_ | refine pblock ?_ | refine pexit ?_ | refine kseq_exit ?_ | refine kblock_hit rfl ?_ | refine kblock_miss rfl ?_ | refine kblock_ret ?_ | refine kblock_normal ?_ | refine kloop_ret ?_ | refine kloop_exit ?_ | refine kcut_ret ?_ | refine kcut_exit ?_ | refine pcond_t rfl ?_ | refine pcond_f rfl ?_ | (with_reducible (show POps _ _ _ _ _ _ _); simp only [List.append_eq, List.cons_append, List.nil_append]))
        refine kretv rfl ⟨trivial, trivial⟩ rfl (eqI ?_)
        rw [cmpR, if_pos (by simp [k1, k2]), if_neg (by omega), if_pos hc2]
      · simp at hc2
        repeat' (first | ((with_reducible (show POps _ _ _ _ (_ :: _) _ _)); (first | refine pop_read rfl rfl rfl rfl trivial ?_ | refine pop_guard rfl rfl rfl rfl rfl qgd ?_ | refine pop_new rfl rfl rfl rfl trivial ?_ | refine pop_store rfl rfl rfl Nat.zero_lt_one ?_ | refine pop_read rfl rfl rfl rfl qrd ?_ | refine pop_read2 rfl rfl rfl rfl trivial ?_ | refine pop_store rfl rfl rfl qst ?_ | fail)) | refine pnil ?_ | refine kround_exit ?_ | refine kround_ret ?_ | refine kround_next ?_ | refine kseq_normal ?_ | refine pseq ?_ | refine pregion ?_ | refine pret ?_ | refine kseq_ret ?_ | refine pskip ?_ | refine pblock ?_ | refine pexit ?_ | refine kseq_exit ?_ | refine kblock_hit rfl ?_ | refine kblock_miss rfl ?_ | refine kblock_ret ?_ | refine kblock_normal ?_ | refine kloop_ret ?_ | refine kloop_exit ?_ | refine kcut_ret ?_ | refine kcut_exit ?_ | refine pcond_t rfl ?_ | refine pcond_f rfl ?_ | (with_reducible (show POps _ _ _ _ _ _ _); simp only [List.append_eq, List.cons_append, List.nil_append]))
        refine kretv rfl ⟨trivial, trivial⟩ rfl (eqI ?_)
        rw [cmpR, if_pos (by simp [k1, k2]), if_neg (by omega), if_neg (by omega)]
theorem ref1New_g (n d N D g : Int) (N1 : 0 ≤ N) (N2 : N < 18446744073709551616) (D1 : 1 ≤ D) (D2 : D < 18446744073709551616) (h0 : d ≠ 0) (hg : 1 ≤ g)
    (hs1 : PureC G.P 103 [vi n] (fun r => r = vu N)) (hs2 : PureC G.P 103 [vi d] (fun r => r = vu D)) (hc : PureC G.P 102 [vu N, vu D] (fun r => r = vu g)) :
    PureC G.P 74 [vi n, vi d] (fun r => r = vRE (fitG (!(decide (n < 0) == decide (d < 0))) N D g)) := by
  have q1 : 0 ≤ N / g := Int.ediv_nonneg N1 (by omega)
  have q2 : 0 ≤ D / g := Int.ediv_nonneg (by omega) (by omega)
  have q3 : N / g ≤ N := Int.ediv_le_self _ N1
  have q4 : D / g ≤ D := Int.ediv_le_self _ (by omega)
  have t1 : N.tdiv g = N / g := Int.tdiv_eq_ediv_of_nonneg N1
  have t2 : D.tdiv g = D / g := Int.tdiv_eq_ediv_of_nonneg (by omega)
  have hg0 : g ≠ 0 := by omega
  refine pure_of (G := G.toPg) (fn := Tryz.f74) Tryz.func74 rfl rfl rfl ?_; intro Γ hk
  repeat' (first | ((with_reducible (show POps _ _ _ _ (_ :: _) _ _)); (first | refine pop_read rfl rfl rfl rfl trivial ?_ | refine pop_guard rfl rfl rfl rfl rfl qgd ?_ | refine pop_new rfl rfl rfl rfl trivial ?_ | refine pop_store rfl rfl rfl Nat.zero_lt_one ?_ | refine pop_read rfl rfl rfl rfl qrd ?_ | refine pop_read2 rfl rfl rfl rfl trivial ?_ | refine pop_store rfl rfl rfl qst ?_ | fail)) | refine pnil ?_ | refine kround_exit ?_ | refine kround_ret ?_ | refine kround_next ?_ | refine kseq_normal ?_ | refine pseq ?_ | refine pregion ?_ | refine pret ?_ | refine kseq_ret ?_ | refine pskip ?_ | refine pblock ?_ | refine pexit ?_ | refine kseq_exit ?_ | refine kblock_hit rfl ?_ | refine kblock_miss rfl ?_ | refine kblock_ret ?_ | refine kblock_normal ?_ | refine kloop_ret ?_ | refine kloop_exit ?_ | refine kcut_ret ?_ | refine kcut_exit ?_ | refine pcond_t rfl ?_ | refine pcond_f rfl ?_ | (with_reducible (show POps _ _ _ _ _ _ _); simp only [List.append_eq, List.cons_append, List.nil_append]))
  refine pcond rfl ?_ ?_ <;> intro hz
  · simp at hz; exact absurd hz h0
  · repeat' (first | ((with_reducible (show POps _ _ _ _ (_ :: _) _ _)); (first | refine pop_read rfl rfl rfl rfl trivial ?_ | refine pop_guard rfl rfl rfl rfl rfl qgd ?_ | refine pop_new rfl rfl rfl rfl trivial ?_ | refine pop_store rfl rfl rfl Nat.zero_lt_one ?_ | refine pop_read rfl rfl rfl rfl qrd ?_ | refine pop_read2 rfl rfl rfl rfl trivial ?_ | refine pop_store rfl rfl rfl qst ?_ | fail)) | refine pnil ?_ | refine kround_exit ?_ | refine kround_ret ?_ | refine kround_next ?_ | refine kseq_normal ?_ | refine pseq ?_ | refine pregion ?_ | refine pret ?_ | refine kseq_ret ?_ | refine pskip ?_ | refine pblock ?_ | refine pexit ?_ | refine kseq_exit ?_ | refine kblock_hit rfl ?_ | refine kblock_miss rfl ?_ | refine kblock_ret ?_ | refine kblock_normal ?_ | refine kloop_ret ?_ | refine kloop_exit ?_ | refine kcut_ret ?_ | refine kcut_exit ?_ | refine pcond_t rfl ?_ | refine pcond_f rfl ?_ | (with_reducible (show POps _ _ _ _ _ _ _); simp only [List.append_eq, List.cons_append, List.nil_append]))
    refine pop_callv rfl rfl rfl rfl rfl hs1 rfl rfl rfl ?_
    repeat' (first | ((with_reducible (show POps _ _ _ _ (_ :: _) _ _)); (first | refine pop_read rfl rfl rfl rfl trivial ?_ | refine pop_guard rfl rfl rfl rfl rfl qgd ?_ | refine pop_new rfl rfl rfl rfl trivial ?_ | refine pop_store rfl rfl rfl Nat.zero_lt_one ?_ | refine pop_read rfl rfl rfl rfl qrd ?_ | refine pop_read2 rfl rfl rfl rfl trivial ?_ | refine pop_store rfl rfl rfl qst ?_ | fail)) | refine pnil ?_ | refine kround_exit ?_ | refine kround_ret ?_ | refine kround_next ?_ | refine kseq_normal ?_ | refine pseq ?_ | refine pregion ?_ | refine pret ?_ | refine kseq_ret ?_ | refine pskip ?_ | refine pblock ?_ | refine pexit ?_ | refine kseq_exit ?_ | refine kblock_hit rfl ?_ | refine kblock_miss rfl ?_ | refine kblock_ret ?_ | refine kblock_normal ?_ | refine kloop_ret ?_ | refine kloop_exit ?_ | refine kcut_ret ?_ | refine kcut_exit ?_ | refine pcond_t rfl ?_ | refine pcond_f rfl ?_ | (with_reducible (show POps _ _ _ _ _ _ _); simp only [List.append_eq, List.cons_append, List.nil_append]))
    refine pop_callv rfl rfl rfl rfl rfl hs2 rfl rfl rfl ?_
    repeat' (first | ((with_reducible (show POps _ _ _ _ (_ :: _) _ _)); (first | refine pop_read rfl rfl rfl rfl trivial ?_ | refine pop_guard rfl rfl rfl rfl rfl qgd ?_ | refine pop_new rfl rfl rfl rfl trivial ?_ | refine pop_store rfl rfl rfl Nat.zero_lt_one ?_ | refine pop_read rfl rfl rfl rfl qrd ?_ | refine pop_read2 rfl rfl rfl rfl trivial ?_ | refine pop_store rfl rfl rfl qst ?_ | refine pop_callv rfl rfl rfl rfl rfl hc rfl rfl rfl ?_ | fail)) | refine pnil ?_ | refine kround_exit ?_ | refine kround_ret ?_ | refine kround_next ?_ | refine kseq_normal ?_ | refine pseq ?_ | refine pregion ?_ | refine pret ?_ | refine kseq_ret ?_ | refine pskip ?_ | refine pblock ?_ | refine pexit ?_ | refine kseq_exit ?_ | refine kblock_hit rfl ?_ | refine kblock_miss rfl ?_ | refine kblock_ret ?_ | refine kblock_normal ?_ | refine kloop_ret ?_ | refine kloop_exit ?_ | refine kcut_ret ?_ | refine kcut_exit ?_ | refine pcond_t rfl ?_ | refine pcond_f rfl ?_ | (with_reducible (show POps _ _ _ _ _ _ _); simp only [List.append_eq, List.cons_append, List.nil_append]))
    (refine any_start [] 8 rfl ?_); (first | refine aT 0 ?_ | refine aT2 0 ?_ | (refine aC 0 ?_ ?_; rotate_left)); (first | refine aT 1 ?_ | refine aT2 1 ?_ | (refine aC 1 ?_ ?_; rotate_left)); (first | refine aT 2 ?_ | refine aT2 2 ?_ | (refine aC 2 ?_ ?_; rotate_left)); (first | refine aT 3 ?_ | refine aT2 3 ?_ | (refine aC 3 ?_ ?_; rotate_left)); (first | refine aT 4 ?_ | refine aT2 4 ?_ | (refine aC 4 ?_ ?_; rotate_left)); (first | refine aT 5 ?_ | refine aT2 5 ?_ | (refine aC 5 ?_ ?_; rotate_left)); (first | refine aT 6 ?_ | refine aT2 6 ?_ | (refine aC 6 ?_ ?_; rotate_left)); (first | refine aT 7 ?_ | refine aT2 7 ?_ | (refine aC 7 ?_ ?_; rotate_left)); (refine any_done (by kernel_rfl) ?_)
    rw [t1, t2, wu64 q1 (by omega), wu64 q2 (by omega)]
    repeat' (first | ((with_reducible (show POps _ _ _ _ (_ :: _) _ _)); (first | refine pop_read rfl rfl rfl rfl trivial ?_ | refine pop_guard rfl rfl rfl rfl rfl qgd ?_ | refine pop_new rfl rfl rfl rfl trivial ?_ | refine pop_store rfl rfl rfl Nat.zero_lt_one ?_ | refine pop_read rfl rfl rfl rfl qrd ?_ | refine pop_read2 rfl rfl rfl rfl trivial ?_ | refine pop_store rfl rfl rfl qst ?_ | fail)) | refine pnil ?_ | refine kround_exit ?_ | refine kround_ret ?_ | refine kround_next ?_ | refine kseq_normal ?_ | refine pseq ?_ | refine pregion ?_ | refine pret ?_ | refine kseq_ret ?_ | refine pskip ?_ | refine pblock ?_ | refine pexit ?_ | refine kseq_exit ?_ | refine kblock_hit rfl ?_ | refine kblock_miss rfl ?_ | refine kblock_ret ?_ | refine kblock_normal ?_ | refine kloop_ret ?_ | refine kloop_exit ?_ | refine kcut_ret ?_ | refine kcut_exit ?_ | refine pcond_t rfl ?_ | refine pcond_f rfl ?_ | (with_reducible (show POps _ _ _ _ _ _ _); simp only [List.append_eq, List.cons_append, List.nil_append]))
    refine pcond rfl ?_ ?_ <;> intro hc1
    · simp at hc1
      repeat' (first | ((with_reducible (show POps _ _ _ _ (_ :: _) _ _)); (first | refine pop_read rfl rfl rfl rfl trivial ?_ | refine pop_guard rfl rfl rfl rfl rfl qgd ?_ | refine pop_new rfl rfl rfl rfl trivial ?_ | refine pop_store rfl rfl rfl Nat.zero_lt_one ?_ | refine pop_read rfl rfl rfl rfl qrd ?_ | refine pop_read2 rfl rfl rfl rfl trivial ?_ | refine pop_store rfl rfl rfl qst ?_ | fail)) | refine pnil ?_ | refine kround_exit ?_ | refine kround_ret ?_ | refine kround_next ?_ | refine kseq_normal ?_ | refine pseq ?_ | refine pregion ?_ | refine pret ?_ | refine kseq_ret ?_ | refine pskip ?_ | refine pblock ?_ | refine pexit ?_ | refine kseq_exit ?_ | refine kblock_hit rfl ?_ | refine kblock_miss rfl ?_ | refine kblock_ret ?_ | refine kblock_normal ?_ | refine kloop_ret ?_ | refine kloop_exit ?_ | refine kcut_ret ?_ | refine kcut_exit ?_ | refine pcond_t rfl ?_ | refine pcond_f rfl ?_ | (with_reducible (show POps _ _ _ _ _ _ _); simp only [List.append_eq, List.cons_append, List.nil_append]))
      refine kretv rfl ⟨Nat.zero_lt_one, trivial, trivial⟩ rfl ?_
      show vRE ((0, 0), 4) = _
      rw [fitG, if_pos hc1]
    · simp at hc1
      repeat' (first | ((with_reducible (show POps _ _ _ _ (_ :: _) _ _)); (first | refine pop_read rfl rfl rfl rfl trivial ?_ | refine pop_guard rfl rfl rfl rfl rfl qgd ?_ | refine pop_new rfl rfl rfl rfl trivial ?_ | refine pop_store rfl rfl rfl Nat.zero_lt_one ?_ | refine pop_read rfl rfl rfl rfl qrd ?_ | refine pop_read2 rfl rfl rfl rfl trivial ?_ | refine pop_store rfl rfl rfl qst ?_ | fail)) | refine pnil ?_ | refine kround_exit ?_ | refine kround_ret ?_ | refine kround_next ?_ | refine kseq_normal ?_ | refine pseq ?_ | refine pregion ?_ | refine pret ?_ | refine kseq_ret ?_ | refine pskip ?_ | refine pblock ?_ | refine pexit ?_ | refine kseq_exit ?_ | refine kblock_hit rfl ?_ | refine kblock_miss rfl ?_ | refine kblock_ret ?_ | refine kblock_normal ?_ | refine kloop_ret ?_ | refine kloop_exit ?_ | refine kcut_ret ?_ | refine kcut_exit ?_ | refine pcond_t rfl ?_ | refine pcond_f rfl ?_ | (with_reducible (show POps _ _ _ _ _ _ _); simp only [List.append_eq, List.cons_append, List.nil_append]))
      rw [w64 (n := N / g) (by omega) (by omega), w64 (n := D / g) (by omega) (by omega)]
      refine pcond rfl ?_ ?_ <;> intro hc2
      · rw [hc2]
        repeat' (first | ((with_reducible (show POps _ _ _ _ (_ :: _) _ _)); (first | refine pop_read rfl rfl rfl rfl trivial ?_ | refine pop_guard rfl rfl rfl rfl rfl qgd ?_ | refine pop_new rfl rfl rfl rfl trivial ?_ | refine pop_store rfl rfl rfl Nat.zero_lt_one ?_ | refine pop_read rfl rfl rfl rfl qrd ?_ | refine pop_read2 rfl rfl rfl rfl trivial ?_ | refine pop_store rfl rfl rfl qst ?_ | fail)) | refine pnil ?_ | refine kround_exit ?_ | refine kround_ret ?_ | refine kround_next ?_ | refine kseq_normal ?_ | refine pseq ?_ | refine pregion ?_ | refine pret ?_ | refine kseq_ret ?_ | refine pskip ?_ | refine pblock ?_ | refine pexit ?_ | refine kseq_exit ?_ | refine kblock_hit rfl ?_ | refine kblock_miss rfl ?_ | refine kblock_ret ?_ | refine kblock_normal ?_ | refine kloop_ret ?_ | refine kloop_exit ?_ | refine kcut_ret ?_ | refine kcut_exit ?_ | refine pcond_t rfl ?_ | refine pcond_f rfl ?_ | (with_reducible (show POps _ _ _ _ _ _ _); simp only [List.append_eq, List.cons_append, List.nil_append]))
        refine kretv rfl ⟨Nat.zero_lt_one, trivial, trivial⟩ rfl ?_
        rw [w64 (by omega) (by omega)]
        show vRE ((0 - N / g, D / g), 0) = _
        rw [fitG, if_neg (by omega), Int.zero_sub]; rfl
      · rw [hc2]
        repeat' (first | ((with_reducible (show POps _ _ _ _ (_ :: _) _ _)); (first | refine pop_read rfl rfl rfl rfl trivial ?_ | refine pop_guard rfl rfl rfl rfl rfl qgd ?_ | refine pop_new rfl rfl rfl rfl trivial ?_ | refine pop_store rfl rfl rfl Nat.zero_lt_one ?_ | refine pop_read rfl rfl rfl rfl qrd ?_ | refine pop_read2 rfl rfl rfl rfl trivial ?_ | refine pop_store rfl rfl rfl qst ?_ | fail)) | refine pnil ?_ | refine kround_exit ?_ | refine kround_ret ?_ | refine kround_next ?_ | refine kseq_normal ?_ | refine pseq ?_ | refine pregion ?_ | refine pret ?_ | refine kseq_ret ?_ | refine pskip ?_ | refine pblock ?_ | refine pexit ?_ | refine kseq_exit ?_ | refine kblock_hit rfl ?_ | refine kblock_miss rfl ?_ | refine kblock_ret ?_ | refine kblock_normal ?_ | refine kloop_ret ?_ | refine kloop_exit ?_ | refine kcut_ret ?_ | refine kcut_exit ?_ | refine pcond_t rfl ?_ | refine pcond_f rfl ?_ | (with_reducible (show POps _ _ _ _ _ _ _); simp only [List.append_eq, List.cons_append, List.nil_append]))
        refine kretv rfl ⟨Nat.zero_lt_one, trivial, trivial⟩ rfl ?_
        show vRE ((N / g, D / g), 0) = _
        rw [fitG, if_neg (by omega)]; rfl
theorem ref1New_c (n d : Int) (h1 : -9223372036854775808 ≤ n) (h2 : n ≤ 9223372036854775807) (h3 : -9223372036854775808 ≤ d) (h4 : d ≤ 9223372036854775807) : PureC G.P 74 [vi n, vi d] (fun r => r = vRE (newS n d)) := by
  by_cases h0 : d = 0
  · subst h0
    refine pure_of (G := G.toPg) (fn := Tryz.f74) Tryz.func74 rfl rfl rfl ?_; intro Γ hk
    repeat' (first | ((with_reducible (show POps _ _ _ _ (_ :: _) _ _)); (first | refine pop_read rfl rfl rfl rfl trivial ?_ | refine pop_guard rfl rfl rfl rfl rfl qgd ?_ | refine pop_new rfl rfl rfl rfl trivial ?_ | refine pop_store rfl rfl rfl Nat.zero_lt_one ?_ | refine pop_read rfl rfl rfl rfl qrd ?_ | refine pop_read2 rfl rfl rfl rfl trivial ?_ | refine pop_store rfl rfl rfl qst ?_ | fail)) | refine pnil ?_ | refine kround_exit ?_ | refine kround_ret ?_ | refine kround_next ?_ | refine kseq_normal ?_ | refine pseq ?_ | refine pregion ?_ | refine pret ?_ | refine kseq_ret ?_ | refine pskip ?_ | refine pblock ?_ | refine pexit ?_ | refine kseq_exit ?_ | refine kblock_hit rfl ?_ | refine kblock_miss rfl ?_ | refine kblock_ret ?_ | refine kblock_normal ?_ | refine kloop_ret ?_ | refine kloop_exit ?_ | refine kcut_ret ?_ | refine kcut_exit ?_ | refine pcond_t rfl ?_ | refine pcond_f rfl ?_ | (with_reducible (show POps _ _ _ _ _ _ _); simp only [List.append_eq, List.cons_append, List.nil_append]))
    refine kretv rfl ⟨Nat.zero_lt_one, trivial, trivial⟩ rfl ?_
    rfl
  · rw [newS, if_neg h0]
    exact ref1New_g n d n.natAbs d.natAbs (Int.gcd n.natAbs d.natAbs) (by omega) (by omega) (by omega) (by omega) h0 (gcd_pos (by omega)) (size_c n h1 h2) (size_c d h3 h4) (commonI_c _ _ (by omega) (by omega) (by omega) (by omega))
end Go.Proofs.YtdifpajpheemaaaGreatDoor
namespace Go.Proofs.YtdifpajpheemaaaGreatDoor
def mulR (a b c d : Int) : RE := if okR a b && okR c d then newS (a * c) (b * d) else ((0, 0), 1)
def divR (a b c d : Int) : RE := if okR a b && okR c d then (if c = 0 then ((0, 0), 5) else newS (a * d) (b * c)) else ((0, 0), 1)
def negR (a b : Int) : RE := if okR a b then ((-a, b), 0) else ((0, 0), 1)
theorem cop4 {x y z w : Nat} (hy : 0 < y) (hw : 0 < w) (h1 : Nat.gcd x y = 1) (h2 : Nat.gcd z w = 1) : Nat.gcd (x / Nat.gcd x w * (z / Nat.gcd z y)) (y / Nat.gcd z y * (w / Nat.gcd x w)) = 1 := by
  have g1 : 0 < Nat.gcd x w := Nat.gcd_pos_of_pos_right _ hw
  have g2 : 0 < Nat.gcd z y := Nat.gcd_pos_of_pos_right _ hy
  have c1 : Nat.Coprime (x / Nat.gcd x w) (w / Nat.gcd x w) := Nat.coprime_div_gcd_div_gcd g1
  have c2 : Nat.Coprime (z / Nat.gcd z y) (y / Nat.gcd z y) := Nat.coprime_div_gcd_div_gcd g2
  have k1 : x / Nat.gcd x w ∣ x := Nat.div_dvd_of_dvd (Nat.gcd_dvd_left ..)
  have k2 : w / Nat.gcd x w ∣ w := Nat.div_dvd_of_dvd (Nat.gcd_dvd_right ..)
  have k3 : z / Nat.gcd z y ∣ z := Nat.div_dvd_of_dvd (Nat.gcd_dvd_left ..)
  have k4 : y / Nat.gcd z y ∣ y := Nat.div_dvd_of_dvd (Nat.gcd_dvd_right ..)
  have c3 : Nat.Coprime (x / Nat.gcd x w) (y / Nat.gcd z y) := Nat.Coprime.coprime_dvd_left k1 (Nat.Coprime.coprime_dvd_right k4 h1)
  have c4 : Nat.Coprime (z / Nat.gcd z y) (w / Nat.gcd x w) := Nat.Coprime.coprime_dvd_left k3 (Nat.Coprime.coprime_dvd_right k2 h2)
  exact Nat.Coprime.mul_left (Nat.Coprime.mul_right c3 c1) (Nat.Coprime.mul_right c2 c4)
theorem prod_red {x y z w : Nat} (hy : 0 < y) (hw : 0 < w) (h1 : Nat.gcd x y = 1) (h2 : Nat.gcd z w = 1) :
    x * z / Nat.gcd (x * z) (y * w) = x / Nat.gcd x w * (z / Nat.gcd z y) ∧ y * w / Nat.gcd (x * z) (y * w) = y / Nat.gcd z y * (w / Nat.gcd x w) := by
  have c := cop4 hy hw h1 h2
  have g1 : 0 < Nat.gcd x w := Nat.gcd_pos_of_pos_right _ hw
  have g2 : 0 < Nat.gcd z y := Nat.gcd_pos_of_pos_right _ hy
  have p3 : 0 < y / Nat.gcd z y := Nat.div_pos (Nat.le_of_dvd hy (Nat.gcd_dvd_right ..)) g2
  have p4 : 0 < w / Nat.gcd x w := Nat.div_pos (Nat.le_of_dvd hw (Nat.gcd_dvd_right ..)) g1
  have e := @nat_red (x * z) (y * w) (x / Nat.gcd x w * (z / Nat.gcd z y)) (y / Nat.gcd z y * (w / Nat.gcd x w)) (Nat.mul_pos hy hw) (Nat.mul_pos p3 p4) (by
    obtain ⟨a, ha⟩ := Nat.gcd_dvd_left x w
    obtain ⟨b, hb⟩ := Nat.gcd_dvd_right x w
    obtain ⟨a', ha'⟩ := Nat.gcd_dvd_left z y
    obtain ⟨b', hb'⟩ := Nat.gcd_dvd_right z y
    rw [Nat.div_eq_of_eq_mul_right g1 ha, Nat.div_eq_of_eq_mul_right g1 hb, Nat.div_eq_of_eq_mul_right g2 ha', Nat.div_eq_of_eq_mul_right g2 hb']
    generalize Nat.gcd x w = g at *
    generalize Nat.gcd z y = h at *
    rw [ha, ha', hb, hb']
    simp only [Nat.mul_assoc, Nat.mul_left_comm, Nat.mul_comm])
  rw [c, Nat.div_one, Nat.div_one] at e
  exact e
theorem fit_prod (neg : Bool) {x y z w : Nat} (hy : 0 < y) (hw : 0 < w) (h1 : Nat.gcd x y = 1) (h2 : Nat.gcd z w = 1) :
    fitS neg ((x * z : Nat) : Int) ((y * w : Nat) : Int) = fitG neg ((x / Nat.gcd x w * (z / Nat.gcd z y) : Nat) : Int) ((y / Nat.gcd z y * (w / Nat.gcd x w) : Nat) : Int) 1 := by
  obtain ⟨e1, e2⟩ := prod_red hy hw h1 h2
  have g : Int.gcd ((x * z : Nat) : Int) ((y * w : Nat) : Int) = Nat.gcd (x * z) (y * w) := rfl
  unfold fitS fitG
  rw [g, ← Int.natCast_ediv, ← Int.natCast_ediv, e1, e2, Int.ediv_one, Int.ediv_one]
theorem fitG_zero (neg neg' : Bool) (D : Int) : fitG neg 0 D 1 = fitG neg' 0 D 1 := by
  unfold fitG
  rw [Int.ediv_one, Int.ediv_one]
  cases neg <;> cases neg' <;> rfl
theorem mul_neg_dec {a c : Int} (ha : a ≠ 0) (hc : c ≠ 0) : decide (a * c < 0) = (decide (a < 0) != decide (c < 0)) := by
  rcases Int.lt_or_gt_of_ne ha with h | h <;> rcases Int.lt_or_gt_of_ne hc with k | k
  · have := Int.mul_pos_of_neg_of_neg h k
    rw [decide_eq_false (by omega), decide_eq_true h, decide_eq_true k]; rfl
  · have := Int.mul_neg_of_neg_of_pos h k
    rw [decide_eq_true this, decide_eq_true h, decide_eq_false (by omega)]; rfl
  · have := Int.mul_neg_of_pos_of_neg h k
    rw [decide_eq_true this, decide_eq_false (by omega), decide_eq_true k]; rfl
  · have := Int.mul_pos h k
    rw [decide_eq_false (by omega), decide_eq_false (by omega), decide_eq_false (by omega)]; rfl
theorem newS_mul {a b c d : Int} (h1 : okR a b = true) (h2 : okR c d = true) : newS (a * c) (b * d) = fitG (decide (a < 0) != decide (c < 0)) ((a.natAbs / Nat.gcd a.natAbs d.natAbs * (c.natAbs / Nat.gcd c.natAbs b.natAbs) : Nat) : Int) ((b.natAbs / Nat.gcd c.natAbs b.natAbs * (d.natAbs / Nat.gcd a.natAbs d.natAbs) : Nat) : Int) 1 := by
  obtain ⟨b1, b2, a1, a2⟩ := okR_bd h1
  obtain ⟨d1, d2, c1, c2⟩ := okR_bd h2
  have g1 : Nat.gcd a.natAbs b.natAbs = 1 := okR_gcd h1
  have g2 : Nat.gcd c.natAbs d.natAbs = 1 := okR_gcd h2
  have hp : 0 < b * d := Int.mul_pos (by omega) (by omega)
  rw [newS, if_neg (by omega), decide_eq_false (show ¬ b * d < 0 by omega), Int.natAbs_mul, Int.natAbs_mul, fit_prod _ (by omega) (by omega) g1 g2]
  by_cases ha : a = 0
  · subst ha; simp; exact fitG_zero _ _ _
  by_cases hc : c = 0
  · subst hc; simp; exact fitG_zero _ _ _
  rw [mul_neg_dec ha hc]
  congr 1
  cases decide (a < 0) <;> cases decide (c < 0) <;> rfl
theorem newS_div {a b c d : Int} (h1 : okR a b = true) (h2 : okR c d = true) (hc : c ≠ 0) : newS (a * d) (b * c) = fitG (decide (a < 0) != decide (c < 0)) ((a.natAbs / Nat.gcd a.natAbs c.natAbs * (d.natAbs / Nat.gcd d.natAbs b.natAbs) : Nat) : Int) ((b.natAbs / Nat.gcd d.natAbs b.natAbs * (c.natAbs / Nat.gcd a.natAbs c.natAbs) : Nat) : Int) 1 := by
  obtain ⟨b1, b2, a1, a2⟩ := okR_bd h1
  obtain ⟨d1, d2, c1, c2⟩ := okR_bd h2
  have g1 : Nat.gcd a.natAbs b.natAbs = 1 := okR_gcd h1
  have g2 : Nat.gcd d.natAbs c.natAbs = 1 := by rw [Nat.gcd_comm]; exact okR_gcd h2
  have hp : b * c ≠ 0 := Int.mul_ne_zero (by omega) hc
  rw [newS, if_neg hp, Int.natAbs_mul, Int.natAbs_mul, fit_prod _ (by omega) (by omega) g1 g2]
  have eb : decide (b * c < 0) = decide (c < 0) := by rw [mul_neg_dec (by omega) hc, decide_eq_false (show ¬ b < 0 by omega)]; cases decide (c < 0) <;> rfl
  by_cases ha : a = 0
  · subst ha; simp; exact fitG_zero _ _ _
  rw [eb, mul_neg_dec ha (show d ≠ 0 by omega), decide_eq_false (show ¬ d < 0 by omega)]
  congr 1
  cases decide (a < 0) <;> cases decide (c < 0) <;> rfl
theorem and32 {a : Int} (h0 : 0 ≤ a) (h1 : a < 18446744073709551616) : IntKind.u64.wrap ((BitVec.ofInt IntKind.u64.bits a &&& BitVec.ofInt IntKind.u64.bits 4294967295).toNat : Nat) = a % 4294967296 := by
  obtain ⟨n, rfl⟩ := Int.eq_ofNat_of_zero_le h0
  have hn : n < 18446744073709551616 := by omega
  have e : (BitVec.ofInt IntKind.u64.bits (n : Int) &&& BitVec.ofInt IntKind.u64.bits 4294967295).toNat = n % 4294967296 := by
    rw [BitVec.toNat_and]
    show (BitVec.ofInt 64 (n : Int)).toNat &&& (BitVec.ofInt 64 4294967295).toNat = _
    rw [BitVec.toNat_ofInt, show (BitVec.ofInt 64 4294967295).toNat = 2 ^ 32 - 1 from rfl, Nat.and_two_pow_sub_one_eq_mod]
    show ((n : Int) % 18446744073709551616).toNat % 4294967296 = _
    omega
  rw [e, wu64 (by omega) (by omega)]
  omega
theorem shr32 {a : Int} (h0 : 0 ≤ a) : a.fdiv (2 ^ min (32 : Int).toNat IntKind.u64.bits) = a / 4294967296 := by
  show a.fdiv (4294967296 : Int) = _
  rw [Int.fdiv_eq_ediv_of_nonneg _ (by omega)]
theorem mul_split (x0 x1 y0 y1 : Int) : (x0 + 4294967296 * x1) * (y0 + 4294967296 * y1) = 18446744073709551616 * (x1 * y1) + 4294967296 * (x1 * y0) + 4294967296 * (x0 * y1) + x0 * y0 := by
  have t1 : 4294967296 * x1 * (4294967296 * y1) = 18446744073709551616 * (x1 * y1) := by
    rw [Int.mul_assoc, Int.mul_left_comm x1, ← Int.mul_assoc]; rfl
  have t2 : 4294967296 * x1 * y0 = 4294967296 * (x1 * y0) := Int.mul_assoc _ _ _
  have t3 : x0 * (4294967296 * y1) = 4294967296 * (x0 * y1) := Int.mul_left_comm _ _ _
  rw [Int.add_mul, Int.mul_add, Int.mul_add, t1, t2, t3]
  omega
theorem wu64m (n : Int) : IntKind.u64.wrap n = n % 18446744073709551616 := by
  simp only [IntKind.wrap, IntKind.bits, IntKind.signed]; simp
theorem mul64_f (x y : Int) (hx : 0 ≤ x) (hx2 : x < 18446744073709551616) (hy : 0 ≤ y) (hy2 : y < 18446744073709551616) : PureC G.P 109 [vu x, vu y] (fun r => r = .tup 2 (nthP [vu (x * y / 18446744073709551616), vu (x * y % 18446744073709551616)])) := by
  have p := Int.mul_nonneg hx hy
  refine pure_of (G := G.toPg) (fn := Tryz.f109) Tryz.func109 rfl rfl rfl ?_; intro Γ hk
  repeat' (first | ((with_reducible (show POps _ _ _ _ (_ :: _) _ _)); (first | refine pop_read rfl rfl rfl rfl trivial ?_ | refine pop_guard rfl rfl rfl rfl rfl qgd ?_ | refine pop_new rfl rfl rfl rfl trivial ?_ | refine pop_store rfl rfl rfl Nat.zero_lt_one ?_ | refine pop_read rfl rfl rfl rfl qrd ?_ | refine pop_read2 rfl rfl rfl rfl trivial ?_ | refine pop_store rfl rfl rfl qst ?_ | refine pop_read rfl rfl rfl rfl (show ¬ (32 : Int) < 0 from by decide) ?_ | fail)) | refine pnil ?_ | refine kround_exit ?_ | refine kround_ret ?_ | refine kround_next ?_ | refine kseq_normal ?_ | refine pseq ?_ | refine pregion ?_ | refine pret ?_ | refine kseq_ret ?_ | refine pskip ?_ | refine pblock ?_ | refine pexit ?_ | refine kseq_exit ?_ | refine kblock_hit rfl ?_ | refine kblock_miss rfl ?_ | refine kblock_ret ?_ | refine kblock_normal ?_ | refine kloop_ret ?_ | refine kloop_exit ?_ | refine kcut_ret ?_ | refine kcut_exit ?_ | refine pcond_t rfl ?_ | refine pcond_f rfl ?_ | (with_reducible (show POps _ _ _ _ _ _ _); simp only [List.append_eq, List.cons_append, List.nil_append]))
  rw [and32 hx hx2, and32 hy hy2, shr32 hx, shr32 hy]
  have e := mul_split (x % 4294967296) (x / 4294967296) (y % 4294967296) (y / 4294967296)
  rw [show x % 4294967296 + 4294967296 * (x / 4294967296) = x by omega, show y % 4294967296 + 4294967296 * (y / 4294967296) = y by omega] at e
  rw [wu64m (x * y)]
  have a1 : 0 ≤ x % 4294967296 := by omega
  have a2 : x % 4294967296 ≤ 4294967295 := by omega
  have a3 : 0 ≤ x / 4294967296 := by omega
  have a4 : x / 4294967296 ≤ 4294967295 := by omega
  have b1 : 0 ≤ y % 4294967296 := by omega
  have b2 : y % 4294967296 ≤ 4294967295 := by omega
  have b3 : 0 ≤ y / 4294967296 := by omega
  have b4 : y / 4294967296 ≤ 4294967295 := by omega
  generalize x % 4294967296 = x0 at *
  generalize x / 4294967296 = x1 at *
  generalize y % 4294967296 = y0 at *
  generalize y / 4294967296 = y1 at *
  generalize x * y = xy at *
  have q00 := Int.mul_nonneg a1 b1
  have q10 := Int.mul_nonneg a3 b1
  have q01 := Int.mul_nonneg a1 b3
  have q11 := Int.mul_nonneg a3 b3
  have c00 : x0 * y0 ≤ 4294967295 * 4294967295 := Int.mul_le_mul a2 b2 b1 (by omega)
  have c10 : x1 * y0 ≤ 4294967295 * 4294967295 := Int.mul_le_mul a4 b2 b1 (by omega)
  have c01 : x0 * y1 ≤ 4294967295 * 4294967295 := Int.mul_le_mul a2 b4 b3 (by omega)
  have c11 : x1 * y1 ≤ 4294967295 * 4294967295 := Int.mul_le_mul a4 b4 b3 (by omega)
  generalize x0 * y0 = p00 at *
  generalize x1 * y0 = p10 at *
  generalize x0 * y1 = p01 at *
  generalize x1 * y1 = p11 at *
  rw [wu64 (n := p00) (by omega) (by omega), shr32 q00, wu64 (n := p10) (by omega) (by omega), wu64 (n := p10 + p00 / 4294967296) (by omega) (by omega), and32 (a := p10 + p00 / 4294967296) (by omega) (by omega), shr32 (a := p10 + p00 / 4294967296) (by omega), wu64 (n := p01) (by omega) (by omega), wu64 (n := (p10 + p00 / 4294967296) % 4294967296 + p01) (by omega) (by omega), shr32 (a := (p10 + p00 / 4294967296) % 4294967296 + p01) (by omega), wu64 (n := p11) (by omega) (by omega), wu64 (n := p11 + (p10 + p00 / 4294967296) / 4294967296) (by omega) (by omega), wu64 (n := p11 + (p10 + p00 / 4294967296) / 4294967296 + ((p10 + p00 / 4294967296) % 4294967296 + p01) / 4294967296) (by omega) (by omega)]
  rw [show p11 + (p10 + p00 / 4294967296) / 4294967296 + ((p10 + p00 / 4294967296) % 4294967296 + p01) / 4294967296 = xy / 18446744073709551616 by omega]
  exact kretv rfl ⟨trivial, trivial, trivial⟩ rfl rfl
theorem quo_pos {n g : Int} (hn : 0 ≤ n) : n.tdiv g = n / g := Int.tdiv_eq_ediv_of_nonneg hn
theorem ediv_le' {n g : Int} (hn : 0 ≤ n) (hg : 1 ≤ g) : 0 ≤ n / g ∧ n / g ≤ n := ⟨Int.ediv_nonneg hn (by omega), Int.ediv_le_self _ hn⟩
theorem ediv_ge1 {n g : Int} (hn : 1 ≤ n) (hg : 1 ≤ g) (hd : g ∣ n) : 1 ≤ n / g := by
  obtain ⟨k, rfl⟩ := hd
  rw [Int.mul_ediv_cancel_left _ (by omega)]
  apply Int.not_lt.1
  intro hk
  have := Int.mul_nonpos_of_nonneg_of_nonpos (show 0 ≤ g by omega) (show k ≤ 0 by omega)
  omega
theorem product_f (neg : Bool) (n1 d1 n2 d2 : Int) (h1 : 0 ≤ n1) (h2 : n1 ≤ 1000000000000) (h3 : 1 ≤ d1) (h4 : d1 ≤ 1000000) (h5 : 0 ≤ n2) (h6 : n2 ≤ 1000000000000) (h7 : 1 ≤ d2) (h8 : d2 ≤ 1000000000000)
    (hcop : Int.gcd (n1 / (Int.gcd n1 d2 : Int) * (n2 / (Int.gcd n2 d1 : Int))) (d1 / (Int.gcd n2 d1 : Int) * (d2 / (Int.gcd n1 d2 : Int))) = 1) :
    PureC G.P 90 [vb neg, vu n1, vu d1, vu n2, vu d2] (fun r => r = vRE (fitG neg (n1 / (Int.gcd n1 d2 : Int) * (n2 / (Int.gcd n2 d1 : Int))) (d1 / (Int.gcd n2 d1 : Int) * (d2 / (Int.gcd n1 d2 : Int))) 1)) := by
  have g1 := gcd_pos (n := n1) h7
  have g2 := gcd_pos (n := n2) h3
  have k1 := gcdI_c n1 d2 h1 (by omega) (by omega) (by omega)
  have k2 := gcdI_c n2 d1 (by omega) (by omega) (by omega) (by omega)
  have q1 := ediv_le' h1 g1
  have q2 := ediv_le' (n := n2) (by omega) g2
  have q3 := ediv_le' (n := d1) (by omega) g2
  have q4 := ediv_le' (n := d2) (by omega) g1
  have r3 : 1 ≤ d1 / (Int.gcd n2 d1 : Int) := ediv_ge1 h3 g2 (Int.gcd_dvd_right ..)
  have r4 : 1 ≤ d2 / (Int.gcd n1 d2 : Int) := ediv_ge1 h7 g1 (Int.gcd_dvd_right ..)
  generalize (Int.gcd n1 d2 : Int) = g at *
  generalize (Int.gcd n2 d1 : Int) = h at *
  have e2 : d1 / h * (d2 / g) ≤ 1000000 * 1000000000000 := Int.mul_le_mul (by omega) (by omega) (by omega) (by omega)
  have e3 : 0 ≤ n1 / g * (n2 / h) := Int.mul_nonneg (by omega) (by omega)
  have e4 : 1 * 1 ≤ d1 / h * (d2 / g) := Int.mul_le_mul (by omega) (by omega) (by omega) (by omega)
  have m1 := mul64_f (n1 / g) (n2 / h) (by omega) (by omega) (by omega) (by omega)
  have m2 := mul64_f (d1 / h) (d2 / g) (by omega) (by omega) (by omega) (by omega)
  have w1 : IntKind.u64.wrap (n1.tdiv g) = n1 / g := by rw [quo_pos h1, wu64 (by omega) (by omega)]
  have w2 : IntKind.u64.wrap (n2.tdiv h) = n2 / h := by rw [quo_pos (by omega), wu64 (by omega) (by omega)]
  have w3 : IntKind.u64.wrap (d1.tdiv h) = d1 / h := by rw [quo_pos (by omega), wu64 (by omega) (by omega)]
  have w4 : IntKind.u64.wrap (d2.tdiv g) = d2 / g := by rw [quo_pos (by omega), wu64 (by omega) (by omega)]
  rw [show [vu (n1 / g), vu (n2 / h)] = [vu (IntKind.u64.wrap (n1.tdiv g)), vu (IntKind.u64.wrap (n2.tdiv h))] by rw [w1, w2]] at m1
  rw [show [vu (d1 / h), vu (d2 / g)] = [vu (IntKind.u64.wrap (d1.tdiv h)), vu (IntKind.u64.wrap (d2.tdiv g))] by rw [w3, w4]] at m2
  have ed : d1 / h * (d2 / g) / 18446744073709551616 = 0 := by omega
  have ed' : d1 / h * (d2 / g) % 18446744073709551616 = d1 / h * (d2 / g) := by omega
  rw [ed, ed'] at m2
  refine pure_of (G := G.toPg) (fn := Tryz.f90) Tryz.func90 rfl rfl rfl ?_; intro Γ hk
  repeat' (first | ((with_reducible (show POps _ _ _ _ (_ :: _) _ _)); (first | refine pop_read rfl rfl rfl rfl trivial ?_ | refine pop_guard rfl rfl rfl rfl rfl qgd ?_ | refine pop_new rfl rfl rfl rfl trivial ?_ | refine pop_store rfl rfl rfl Nat.zero_lt_one ?_ | refine pop_read rfl rfl rfl rfl qrd ?_ | refine pop_read2 rfl rfl rfl rfl trivial ?_ | refine pop_store rfl rfl rfl qst ?_ | refine pop_callv rfl rfl rfl rfl rfl k1 rfl rfl rfl ?_ | refine pop_callv rfl rfl rfl rfl rfl k2 rfl rfl rfl ?_ | fail)) | refine pnil ?_ | refine kround_exit ?_ | refine kround_ret ?_ | refine kround_next ?_ | refine kseq_normal ?_ | refine pseq ?_ | refine pregion ?_ | refine pret ?_ | refine kseq_ret ?_ | refine pskip ?_ | refine pblock ?_ | refine pexit ?_ | refine kseq_exit ?_ | refine kblock_hit rfl ?_ | refine kblock_miss rfl ?_ | refine kblock_ret ?_ | refine kblock_normal ?_ | refine kloop_ret ?_ | refine kloop_exit ?_ | refine kcut_ret ?_ | refine kcut_exit ?_ | refine pcond_t rfl ?_ | refine pcond_f rfl ?_ | (with_reducible (show POps _ _ _ _ _ _ _); simp only [List.append_eq, List.cons_append, List.nil_append]))
  (refine any_start [] 12 rfl ?_); (first | refine aT 0 ?_ | refine aT2 0 ?_ | (refine aC 0 ?_ ?_; rotate_left)); (first | refine aT 1 ?_ | refine aT2 1 ?_ | (refine aC 1 ?_ ?_; rotate_left)); (first | refine aT 2 ?_ | refine aT2 2 ?_ | (refine aC 2 ?_ ?_; rotate_left)); (first | refine aT 3 ?_ | refine aT2 3 ?_ | (refine aC 3 ?_ ?_; rotate_left)); (first | refine aT 4 ?_ | refine aT2 4 ?_ | (refine aC 4 ?_ ?_; rotate_left)); (first | refine aT 5 ?_ | refine aT2 5 ?_ | (refine aC 5 ?_ ?_; rotate_left)); (refine aO 6 rfl (ch := [])  (pst_callv rfl rfl rfl rfl rfl m1 rfl rfl rfl ?_)); (first | refine aT 7 ?_ | refine aT2 7 ?_ | (refine aC 7 ?_ ?_; rotate_left)); (first | refine aT 8 ?_ | refine aT2 8 ?_ | (refine aC 8 ?_ ?_; rotate_left)); (first | refine aT 9 ?_ | refine aT2 9 ?_ | (refine aC 9 ?_ ?_; rotate_left)); (first | refine aT 10 ?_ | refine aT2 10 ?_ | (refine aC 10 ?_ ?_; rotate_left)); (first | refine aT 11 ?_ | refine aT2 11 ?_ | (refine aC 11 ?_ ?_; rotate_left)); (refine any_done (by kernel_rfl) ?_)
  repeat' (first | ((with_reducible (show POps _ _ _ _ (_ :: _) _ _)); (first | refine pop_read rfl rfl rfl rfl trivial ?_ | refine pop_guard rfl rfl rfl rfl rfl qgd ?_ | refine pop_new rfl rfl rfl rfl trivial ?_ | refine pop_store rfl rfl rfl Nat.zero_lt_one ?_ | refine pop_read rfl rfl rfl rfl qrd ?_ | refine pop_read2 rfl rfl rfl rfl trivial ?_ | refine pop_store rfl rfl rfl qst ?_ | fail)) | refine pnil ?_ | refine kround_exit ?_ | refine kround_ret ?_ | refine kround_next ?_ | refine kseq_normal ?_ | refine pseq ?_ | refine pregion ?_ | refine pret ?_ | refine kseq_ret ?_ | refine pskip ?_ | refine pblock ?_ | refine pexit ?_ | refine kseq_exit ?_ | refine kblock_hit rfl ?_ | refine kblock_miss rfl ?_ | refine kblock_ret ?_ | refine kblock_normal ?_ | refine kloop_ret ?_ | refine kloop_exit ?_ | refine kcut_ret ?_ | refine kcut_exit ?_ | refine pcond_t rfl ?_ | refine pcond_f rfl ?_ | (with_reducible (show POps _ _ _ _ _ _ _); simp only [List.append_eq, List.cons_append, List.nil_append]))
  (refine any_start [] 12 rfl ?_); (first | refine aT 0 ?_ | refine aT2 0 ?_ | (refine aC 0 ?_ ?_; rotate_left)); (first | refine aT 1 ?_ | refine aT2 1 ?_ | (refine aC 1 ?_ ?_; rotate_left)); (first | refine aT 2 ?_ | refine aT2 2 ?_ | (refine aC 2 ?_ ?_; rotate_left)); (first | refine aT 3 ?_ | refine aT2 3 ?_ | (refine aC 3 ?_ ?_; rotate_left)); (first | refine aT 4 ?_ | refine aT2 4 ?_ | (refine aC 4 ?_ ?_; rotate_left)); (first | refine aT 5 ?_ | refine aT2 5 ?_ | (refine aC 5 ?_ ?_; rotate_left)); (refine aO 6 rfl (ch := [])  (pst_callv rfl rfl rfl rfl rfl m2 rfl rfl rfl ?_)); (first | refine aT 7 ?_ | refine aT2 7 ?_ | (refine aC 7 ?_ ?_; rotate_left)); (first | refine aT 8 ?_ | refine aT2 8 ?_ | (refine aC 8 ?_ ?_; rotate_left)); (first | refine aT 9 ?_ | refine aT2 9 ?_ | (refine aC 9 ?_ ?_; rotate_left)); (first | refine aT 10 ?_ | refine aT2 10 ?_ | (refine aC 10 ?_ ?_; rotate_left)); (first | refine aT 11 ?_ | refine aT2 11 ?_ | (refine aC 11 ?_ ?_; rotate_left)); (refine any_done (by kernel_rfl) ?_)
  by_cases hN : n1 / g * (n2 / h) < 18446744073709551616
  · have ft := fit_c neg (n1 / g * (n2 / h)) (d1 / h * (d2 / g)) e3 hN (by omega) (by omega)
    unfold fitS at ft
    rw [hcop] at ft
    rw [show n1 / g * (n2 / h) / 18446744073709551616 = 0 by omega, show n1 / g * (n2 / h) % 18446744073709551616 = n1 / g * (n2 / h) by omega]
    repeat' (first | ((with_reducible (show POps _ _ _ _ (_ :: _) _ _)); (first | refine pop_read rfl rfl rfl rfl trivial ?_ | refine pop_guard rfl rfl rfl rfl rfl qgd ?_ | refine pop_new rfl rfl rfl rfl trivial ?_ | refine pop_store rfl rfl rfl Nat.zero_lt_one ?_ | refine pop_read rfl rfl rfl rfl qrd ?_ | refine pop_read2 rfl rfl rfl rfl trivial ?_ | refine pop_store rfl rfl rfl qst ?_ | (refine pop_guard2 rfl rfl rfl rfl rfl ?_ ?_; (exact fun h => ⟨h, h, trivial⟩)) | refine pop_callv rfl rfl rfl rfl rfl ft rfl rfl rfl ?_ | fail)) | refine pnil ?_ | refine kround_exit ?_ | refine kround_ret ?_ | refine kround_next ?_ | refine kseq_normal ?_ | refine pseq ?_ | refine pregion ?_ | refine pret ?_ | refine kseq_ret ?_ | refine pskip ?_ | refine pblock ?_ | refine pexit ?_ | refine kseq_exit ?_ | refine kblock_hit rfl ?_ | refine kblock_miss rfl ?_ | refine kblock_ret ?_ | refine kblock_normal ?_ | refine kloop_ret ?_ | refine kloop_exit ?_ | refine kcut_ret ?_ | refine kcut_exit ?_ | refine pcond_t rfl ?_ | refine pcond_f rfl ?_ | (with_reducible (show POps _ _ _ _ _ _ _); simp only [List.append_eq, List.cons_append, List.nil_append]))
    exact kretv rfl ⟨Nat.zero_lt_one, trivial, trivial⟩ rfl rfl
  · repeat' (first | ((with_reducible (show POps _ _ _ _ (_ :: _) _ _)); (first | refine pop_read rfl rfl rfl rfl trivial ?_ | refine pop_guard rfl rfl rfl rfl rfl qgd ?_ | refine pop_new rfl rfl rfl rfl trivial ?_ | refine pop_store rfl rfl rfl Nat.zero_lt_one ?_ | refine pop_read rfl rfl rfl rfl qrd ?_ | refine pop_read2 rfl rfl rfl rfl trivial ?_ | refine pop_store rfl rfl rfl qst ?_ | (refine pop_guard2 rfl rfl rfl rfl rfl ?_ ?_; (exact fun h => ⟨h, h, trivial⟩)) | fail)) | refine pnil ?_ | refine kround_exit ?_ | refine kround_ret ?_ | refine kround_next ?_ | refine kseq_normal ?_ | refine pseq ?_ | refine pregion ?_ | refine pret ?_ | refine kseq_ret ?_ | refine pskip ?_ | refine pblock ?_ | refine pexit ?_ | refine kseq_exit ?_ | refine kblock_hit rfl ?_ | refine kblock_miss rfl ?_ | refine kblock_ret ?_ | refine kblock_normal ?_ | refine kloop_ret ?_ | refine kloop_exit ?_ | refine kcut_ret ?_ | refine kcut_exit ?_ | refine pcond_t rfl ?_ | refine pcond_f rfl ?_ | (with_reducible (show POps _ _ _ _ _ _ _); simp only [List.append_eq, List.cons_append, List.nil_append]))
    refine pcond rfl ?_ ?_ <;> intro hc0
    · repeat' (first | ((with_reducible (show POps _ _ _ _ (_ :: _) _ _)); (first | refine pop_read rfl rfl rfl rfl trivial ?_ | refine pop_guard rfl rfl rfl rfl rfl qgd ?_ | refine pop_new rfl rfl rfl rfl trivial ?_ | refine pop_store rfl rfl rfl Nat.zero_lt_one ?_ | refine pop_read rfl rfl rfl rfl qrd ?_ | refine pop_read2 rfl rfl rfl rfl trivial ?_ | refine pop_store rfl rfl rfl qst ?_ | fail)) | refine pnil ?_ | refine kround_exit ?_ | refine kround_ret ?_ | refine kround_next ?_ | refine kseq_normal ?_ | refine pseq ?_ | refine pregion ?_ | refine pret ?_ | refine kseq_ret ?_ | refine pskip ?_ | refine pblock ?_ | refine pexit ?_ | refine kseq_exit ?_ | refine kblock_hit rfl ?_ | refine kblock_miss rfl ?_ | refine kblock_ret ?_ | refine kblock_normal ?_ | refine kloop_ret ?_ | refine kloop_exit ?_ | refine kcut_ret ?_ | refine kcut_exit ?_ | refine pcond_t rfl ?_ | refine pcond_f rfl ?_ | (with_reducible (show POps _ _ _ _ _ _ _); simp only [List.append_eq, List.cons_append, List.nil_append]))
      refine kretv rfl ⟨Nat.zero_lt_one, trivial, trivial⟩ rfl ?_
      rw [fitG, Int.ediv_one, if_pos (Or.inl (by omega))]; rfl
    · simp at hc0; omega
theorem ratioMul_c (a b c d : Int) (h1 : -9223372036854775808 ≤ a) (h2 : a ≤ 9223372036854775807) (h3 : -9223372036854775808 ≤ c) (h4 : c ≤ 9223372036854775807) : PureC G.P 68 [vr a b, vr c d] (fun r => r = vRE (mulR a b c d)) := by
  refine pure_of (G := G.toPg) (fn := Tryz.f68) Tryz.func68 rfl rfl rfl ?_; intro Γ hk
  repeat' (first | ((with_reducible (show POps _ _ _ _ (_ :: _) _ _)); (first | refine pop_read rfl rfl rfl rfl trivial ?_ | refine pop_guard rfl rfl rfl rfl rfl qgd ?_ | refine pop_new rfl rfl rfl rfl trivial ?_ | refine pop_store rfl rfl rfl Nat.zero_lt_one ?_ | refine pop_read rfl rfl rfl rfl qrd ?_ | refine pop_read2 rfl rfl rfl rfl trivial ?_ | refine pop_store rfl rfl rfl qst ?_ | refine pop_callv rfl rfl rfl rfl rfl (ratioValid_c _ _ (by assumption) (by assumption)) rfl rfl rfl ?_ | (refine pop_callgv rfl rfl rfl rfl rfl rfl (fun _ => ratioValid_c _ _ (by assumption) (by assumption)) ?_ rfl rfl rfl ?_; (exact fun h => ⟨h, trivial⟩)) | fail)) | refine pnil ?_ | refine kround_exit ?_ | refine kround_ret ?_ | refine kround_next ?_ | refine kseq_normal ?_ | refine pseq ?_ | refine pregion ?_ | refine pret ?_ | refine kseq_ret ?_ | refine pskip ?_ | refine pblock ?_ | refine pexit ?_ | refine kseq_exit ?_ | refine kblock_hit rfl ?_ | refine kblock_miss rfl ?_ | refine kblock_ret ?_ | refine kblock_normal ?_ | refine kloop_ret ?_ | refine kloop_exit ?_ | refine kcut_ret ?_ | refine kcut_exit ?_ | refine pcond_t rfl ?_ | refine pcond_f rfl ?_ | (with_reducible (show POps _ _ _ _ _ _ _); simp only [List.append_eq, List.cons_append, List.nil_append]))
  refine pcond rfl ?_ ?_ <;> intro hc
  · repeat' (first | ((with_reducible (show POps _ _ _ _ (_ :: _) _ _)); (first | refine pop_read rfl rfl rfl rfl trivial ?_ | refine pop_guard rfl rfl rfl rfl rfl qgd ?_ | refine pop_new rfl rfl rfl rfl trivial ?_ | refine pop_store rfl rfl rfl Nat.zero_lt_one ?_ | refine pop_read rfl rfl rfl rfl qrd ?_ | refine pop_read2 rfl rfl rfl rfl trivial ?_ | refine pop_store rfl rfl rfl qst ?_ | fail)) | refine pnil ?_ | refine kround_exit ?_ | refine kround_ret ?_ | refine kround_next ?_ | refine kseq_normal ?_ | refine pseq ?_ | refine pregion ?_ | refine pret ?_ | refine kseq_ret ?_ | refine pskip ?_ | refine pblock ?_ | refine pexit ?_ | refine kseq_exit ?_ | refine kblock_hit rfl ?_ | refine kblock_miss rfl ?_ | refine kblock_ret ?_ | refine kblock_normal ?_ | refine kloop_ret ?_ | refine kloop_exit ?_ | refine kcut_ret ?_ | refine kcut_exit ?_ | refine pcond_t rfl ?_ | refine pcond_f rfl ?_ | (with_reducible (show POps _ _ _ _ _ _ _); simp only [List.append_eq, List.cons_append, List.nil_append]))
    refine kretv rfl ⟨Nat.zero_lt_one, trivial, trivial⟩ rfl ?_
    rw [mulR, if_neg (by cases k1 : okR a b <;> cases k2 : okR c d <;> simp_all)]; rfl
  · have hk : okR a b = true ∧ okR c d = true := by cases k1 : okR a b <;> cases k2 : okR c d <;> simp_all
    obtain ⟨k1, k2⟩ := hk
    obtain ⟨r1, r2, r3, r4⟩ := okR_bd k1
    obtain ⟨s1, s2, s3, s4⟩ := okR_bd k2
    have m1 := magnitude_c a (by omega) (by omega)
    have m2 := magnitude_c c (by omega) (by omega)
    have g1 : Nat.gcd a.natAbs b.natAbs = 1 := okR_gcd k1
    have g2 : Nat.gcd c.natAbs d.natAbs = 1 := okR_gcd k2
    obtain ⟨b, rfl⟩ := Int.eq_ofNat_of_zero_le (show 0 ≤ b by omega)
    obtain ⟨d, rfl⟩ := Int.eq_ofNat_of_zero_le (show 0 ≤ d by omega)
    have pr := product_f (decide (a < 0) != decide (c < 0)) a.natAbs b c.natAbs d (by omega) (by omega) (by omega) (by omega) (by omega) (by omega) (by omega) (by omega) (cop4 (by omega) (by omega) g1 g2)
    have ee : PureC G.P 90 [vb (decide (a < 0) != decide (c < 0)), vu a.natAbs, vu (IntKind.u64.wrap b), vu c.natAbs, vu (IntKind.u64.wrap d)] (fun r => r = vRE (newS (a * c) (b * d))) := by
      rw [wu64 (n := (b : Int)) (by omega) (by omega), wu64 (n := (d : Int)) (by omega) (by omega), newS_mul k1 k2]
      exact pr
    repeat' (first | ((with_reducible (show POps _ _ _ _ (_ :: _) _ _)); (first | refine pop_read rfl rfl rfl rfl trivial ?_ | refine pop_guard rfl rfl rfl rfl rfl qgd ?_ | refine pop_new rfl rfl rfl rfl trivial ?_ | refine pop_store rfl rfl rfl Nat.zero_lt_one ?_ | refine pop_read rfl rfl rfl rfl qrd ?_ | refine pop_read2 rfl rfl rfl rfl trivial ?_ | refine pop_store rfl rfl rfl qst ?_ | fail)) | refine pnil ?_ | refine kround_exit ?_ | refine kround_ret ?_ | refine kround_next ?_ | refine kseq_normal ?_ | refine pseq ?_ | refine pregion ?_ | refine pret ?_ | refine kseq_ret ?_ | refine pskip ?_ | refine pblock ?_ | refine pexit ?_ | refine kseq_exit ?_ | refine kblock_hit rfl ?_ | refine kblock_miss rfl ?_ | refine kblock_ret ?_ | refine kblock_normal ?_ | refine kloop_ret ?_ | refine kloop_exit ?_ | refine kcut_ret ?_ | refine kcut_exit ?_ | refine pcond_t rfl ?_ | refine pcond_f rfl ?_ | (with_reducible (show POps _ _ _ _ _ _ _); simp only [List.append_eq, List.cons_append, List.nil_append]))
    (refine any_start [0,1] 18 rfl ?_); (first | refine aT 0 ?_ | refine aT2 0 ?_ | (refine aC 0 ?_ ?_; rotate_left)); (first | refine aT 1 ?_ | refine aT2 1 ?_ | (refine aC 1 ?_ ?_; rotate_left)); (first | refine aT 2 ?_ | refine aT2 2 ?_ | (refine aC 2 ?_ ?_; rotate_left)); (first | refine aT 4 ?_ | refine aT2 4 ?_ | (refine aC 4 ?_ ?_; rotate_left)); (first | refine aT 5 ?_ | refine aT2 5 ?_ | (refine aC 5 ?_ ?_; rotate_left)); (first | refine aT 6 ?_ | refine aT2 6 ?_ | (refine aC 6 ?_ ?_; rotate_left)); (first | refine aT 7 ?_ | refine aT2 7 ?_ | (refine aC 7 ?_ ?_; rotate_left)); (first | refine aT 8 ?_ | refine aT2 8 ?_ | (refine aC 8 ?_ ?_; rotate_left)); (first | refine aT 10 ?_ | refine aT2 10 ?_ | (refine aC 10 ?_ ?_; rotate_left)); (first | refine aT 11 ?_ | refine aT2 11 ?_ | (refine aC 11 ?_ ?_; rotate_left)); (first | refine aT 12 ?_ | refine aT2 12 ?_ | (refine aC 12 ?_ ?_; rotate_left)); (refine aO 3 rfl (ch := [])  (pst_callv rfl rfl rfl rfl rfl m1 rfl rfl rfl ?_)); (refine aO 9 rfl (ch := [])  (pst_callv rfl rfl rfl rfl rfl m2 rfl rfl rfl ?_)); (refine aO 13 rfl (ch := [])  (pst_callv rfl rfl rfl rfl rfl ee rfl rfl rfl ?_)); (first | refine aT 14 ?_ | refine aT2 14 ?_ | (refine aC 14 ?_ ?_; rotate_left)); (first | refine aT 15 ?_ | refine aT2 15 ?_ | (refine aC 15 ?_ ?_; rotate_left)); (refine aO 16 rfl (ch := [_])  (pst_store rfl rfl rfl rfl Nat.zero_lt_one ?_)); (first | refine aT 17 ?_ | refine aT2 17 ?_ | (refine aC 17 ?_ ?_; rotate_left)); (refine any_done (by kernel_rfl) ?_)
    repeat' (first | ((with_reducible (show POps _ _ _ _ (_ :: _) _ _)); (first | refine pop_read rfl rfl rfl rfl trivial ?_ | refine pop_guard rfl rfl rfl rfl rfl qgd ?_ | refine pop_new rfl rfl rfl rfl trivial ?_ | refine pop_store rfl rfl rfl Nat.zero_lt_one ?_ | refine pop_read rfl rfl rfl rfl qrd ?_ | refine pop_read2 rfl rfl rfl rfl trivial ?_ | refine pop_store rfl rfl rfl qst ?_ | fail)) | refine pnil ?_ | refine kround_exit ?_ | refine kround_ret ?_ | refine kround_next ?_ | refine kseq_normal ?_ | refine pseq ?_ | refine pregion ?_ | refine pret ?_ | refine kseq_ret ?_ | refine pskip ?_ | refine pblock ?_ | refine pexit ?_ | refine kseq_exit ?_ | refine kblock_hit rfl ?_ | refine kblock_miss rfl ?_ | refine kblock_ret ?_ | refine kblock_normal ?_ | refine kloop_ret ?_ | refine kloop_exit ?_ | refine kcut_ret ?_ | refine kcut_exit ?_ | refine pcond_t rfl ?_ | refine pcond_f rfl ?_ | (with_reducible (show POps _ _ _ _ _ _ _); simp only [List.append_eq, List.cons_append, List.nil_append]))
    refine kretv rfl ⟨Nat.zero_lt_one, trivial, trivial⟩ rfl ?_
    rw [mulR, if_pos (by simp [k1, k2])]; rfl
theorem ratioDiv_f (a b c d : Int) (h1 : -9223372036854775808 ≤ a) (h2 : a ≤ 9223372036854775807) (h3 : -9223372036854775808 ≤ c) (h4 : c ≤ 9223372036854775807) : PureC G.P 60 [vr a b, vr c d] (fun r => r = vRE (divR a b c d)) := by
  refine pure_of (G := G.toPg) (fn := Tryz.f60) Tryz.func60 rfl rfl rfl ?_; intro Γ hk
  repeat' (first | ((with_reducible (show POps _ _ _ _ (_ :: _) _ _)); (first | refine pop_read rfl rfl rfl rfl trivial ?_ | refine pop_guard rfl rfl rfl rfl rfl qgd ?_ | refine pop_new rfl rfl rfl rfl trivial ?_ | refine pop_store rfl rfl rfl Nat.zero_lt_one ?_ | refine pop_read rfl rfl rfl rfl qrd ?_ | refine pop_read2 rfl rfl rfl rfl trivial ?_ | refine pop_store rfl rfl rfl qst ?_ | refine pop_callv rfl rfl rfl rfl rfl (ratioValid_c _ _ (by assumption) (by assumption)) rfl rfl rfl ?_ | (refine pop_callgv rfl rfl rfl rfl rfl rfl (fun _ => ratioValid_c _ _ (by assumption) (by assumption)) ?_ rfl rfl rfl ?_; (exact fun h => ⟨h, trivial⟩)) | fail)) | refine pnil ?_ | refine kround_exit ?_ | refine kround_ret ?_ | refine kround_next ?_ | refine kseq_normal ?_ | refine pseq ?_ | refine pregion ?_ | refine pret ?_ | refine kseq_ret ?_ | refine pskip ?_ | refine pblock ?_ | refine pexit ?_ | refine kseq_exit ?_ | refine kblock_hit rfl ?_ | refine kblock_miss rfl ?_ | refine kblock_ret ?_ | refine kblock_normal ?_ | refine kloop_ret ?_ | refine kloop_exit ?_ | refine kcut_ret ?_ | refine kcut_exit ?_ | refine pcond_t rfl ?_ | refine pcond_f rfl ?_ | (with_reducible (show POps _ _ _ _ _ _ _); simp only [List.append_eq, List.cons_append, List.nil_append]))
  refine pcond rfl ?_ ?_ <;> intro hc
  · repeat' (first | ((with_reducible (show POps _ _ _ _ (_ :: _) _ _)); (first | refine pop_read rfl rfl rfl rfl trivial ?_ | refine pop_guard rfl rfl rfl rfl rfl qgd ?_ | refine pop_new rfl rfl rfl rfl trivial ?_ | refine pop_store rfl rfl rfl Nat.zero_lt_one ?_ | refine pop_read rfl rfl rfl rfl qrd ?_ | refine pop_read2 rfl rfl rfl rfl trivial ?_ | refine pop_store rfl rfl rfl qst ?_ | fail)) | refine pnil ?_ | refine kround_exit ?_ | refine kround_ret ?_ | refine kround_next ?_ | refine kseq_normal ?_ | refine pseq ?_ | refine pregion ?_ | refine pret ?_ | refine kseq_ret ?_ | refine pskip ?_ | refine pblock ?_ | refine pexit ?_ | refine kseq_exit ?_ | refine kblock_hit rfl ?_ | refine kblock_miss rfl ?_ | refine kblock_ret ?_ | refine kblock_normal ?_ | refine kloop_ret ?_ | refine kloop_exit ?_ | refine kcut_ret ?_ | refine kcut_exit ?_ | refine pcond_t rfl ?_ | refine pcond_f rfl ?_ | (with_reducible (show POps _ _ _ _ _ _ _); simp only [List.append_eq, List.cons_append, List.nil_append]))
    refine kretv rfl ⟨Nat.zero_lt_one, trivial, trivial⟩ rfl ?_
    rw [divR, if_neg (by cases k1 : okR a b <;> cases k2 : okR c d <;> simp_all)]; rfl
  · have hk : okR a b = true ∧ okR c d = true := by cases k1 : okR a b <;> cases k2 : okR c d <;> simp_all
    obtain ⟨k1, k2⟩ := hk
    obtain ⟨r1, r2, r3, r4⟩ := okR_bd k1
    obtain ⟨s1, s2, s3, s4⟩ := okR_bd k2
    repeat' (first | ((with_reducible (show POps _ _ _ _ (_ :: _) _ _)); (first | refine pop_read rfl rfl rfl rfl trivial ?_ | refine pop_guard rfl rfl rfl rfl rfl qgd ?_ | refine pop_new rfl rfl rfl rfl trivial ?_ | refine pop_store rfl rfl rfl Nat.zero_lt_one ?_ | refine pop_read rfl rfl rfl rfl qrd ?_ | refine pop_read2 rfl rfl rfl rfl trivial ?_ | refine pop_store rfl rfl rfl qst ?_ | fail)) | refine pnil ?_ | refine kround_exit ?_ | refine kround_ret ?_ | refine kround_next ?_ | refine kseq_normal ?_ | refine pseq ?_ | refine pregion ?_ | refine pret ?_ | refine kseq_ret ?_ | refine pskip ?_ | refine pblock ?_ | refine pexit ?_ | refine kseq_exit ?_ | refine kblock_hit rfl ?_ | refine kblock_miss rfl ?_ | refine kblock_ret ?_ | refine kblock_normal ?_ | refine kloop_ret ?_ | refine kloop_exit ?_ | refine kcut_ret ?_ | refine kcut_exit ?_ | refine pcond_t rfl ?_ | refine pcond_f rfl ?_ | (with_reducible (show POps _ _ _ _ _ _ _); simp only [List.append_eq, List.cons_append, List.nil_append]))
    refine pcond rfl ?_ ?_ <;> intro hc0
    · simp at hc0
      repeat' (first | ((with_reducible (show POps _ _ _ _ (_ :: _) _ _)); (first | refine pop_read rfl rfl rfl rfl trivial ?_ | refine pop_guard rfl rfl rfl rfl rfl qgd ?_ | refine pop_new rfl rfl rfl rfl trivial ?_ | refine pop_store rfl rfl rfl Nat.zero_lt_one ?_ | refine pop_read rfl rfl rfl rfl qrd ?_ | refine pop_read2 rfl rfl rfl rfl trivial ?_ | refine pop_store rfl rfl rfl qst ?_ | fail)) | refine pnil ?_ | refine kround_exit ?_ | refine kround_ret ?_ | refine kround_next ?_ | refine kseq_normal ?_ | refine pseq ?_ | refine pregion ?_ | refine pret ?_ | refine kseq_ret ?_ | refine pskip ?_ | refine pblock ?_ | refine pexit ?_ | refine kseq_exit ?_ | refine kblock_hit rfl ?_ | refine kblock_miss rfl ?_ | refine kblock_ret ?_ | refine kblock_normal ?_ | refine kloop_ret ?_ | refine kloop_exit ?_ | refine kcut_ret ?_ | refine kcut_exit ?_ | refine pcond_t rfl ?_ | refine pcond_f rfl ?_ | (with_reducible (show POps _ _ _ _ _ _ _); simp only [List.append_eq, List.cons_append, List.nil_append]))
      refine kretv rfl ⟨Nat.zero_lt_one, trivial, trivial⟩ rfl ?_
      rw [divR, if_pos (by simp [k1, k2]), if_pos hc0]; rfl
    · simp at hc0
      have m1 := magnitude_c a (by omega) (by omega)
      have m2 := magnitude_c c (by omega) (by omega)
      have g1 : Nat.gcd a.natAbs b.natAbs = 1 := okR_gcd k1
      have g2 : Nat.gcd d.natAbs c.natAbs = 1 := by rw [Nat.gcd_comm]; exact okR_gcd k2
      obtain ⟨b, rfl⟩ := Int.eq_ofNat_of_zero_le (show 0 ≤ b by omega)
      obtain ⟨d, rfl⟩ := Int.eq_ofNat_of_zero_le (show 0 ≤ d by omega)
      have pr := product_f (decide (a < 0) != decide (c < 0)) a.natAbs b d c.natAbs (by omega) (by omega) (by omega) (by omega) (by omega) (by omega) (by omega) (by omega) (cop4 (by omega) (by omega) g1 g2)
      have ee : PureC G.P 90 [vb (decide (a < 0) != decide (c < 0)), vu a.natAbs, vu (IntKind.u64.wrap b), vu (IntKind.u64.wrap d), vu c.natAbs] (fun r => r = vRE (newS (a * d) (b * c))) := by
        rw [wu64 (n := (b : Int)) (by omega) (by omega), wu64 (n := (d : Int)) (by omega) (by omega), newS_div k1 k2 hc0]
        exact pr
      repeat' (first | ((with_reducible (show POps _ _ _ _ (_ :: _) _ _)); (first | refine pop_read rfl rfl rfl rfl trivial ?_ | refine pop_guard rfl rfl rfl rfl rfl qgd ?_ | refine pop_new rfl rfl rfl rfl trivial ?_ | refine pop_store rfl rfl rfl Nat.zero_lt_one ?_ | refine pop_read rfl rfl rfl rfl qrd ?_ | refine pop_read2 rfl rfl rfl rfl trivial ?_ | refine pop_store rfl rfl rfl qst ?_ | fail)) | refine pnil ?_ | refine kround_exit ?_ | refine kround_ret ?_ | refine kround_next ?_ | refine kseq_normal ?_ | refine pseq ?_ | refine pregion ?_ | refine pret ?_ | refine kseq_ret ?_ | refine pskip ?_ | refine pblock ?_ | refine pexit ?_ | refine kseq_exit ?_ | refine kblock_hit rfl ?_ | refine kblock_miss rfl ?_ | refine kblock_ret ?_ | refine kblock_normal ?_ | refine kloop_ret ?_ | refine kloop_exit ?_ | refine kcut_ret ?_ | refine kcut_exit ?_ | refine pcond_t rfl ?_ | refine pcond_f rfl ?_ | (with_reducible (show POps _ _ _ _ _ _ _); simp only [List.append_eq, List.cons_append, List.nil_append]))
      (refine any_start [0,1] 18 rfl ?_); (first | refine aT 0 ?_ | refine aT2 0 ?_ | (refine aC 0 ?_ ?_; rotate_left)); (first | refine aT 1 ?_ | refine aT2 1 ?_ | (refine aC 1 ?_ ?_; rotate_left)); (first | refine aT 2 ?_ | refine aT2 2 ?_ | (refine aC 2 ?_ ?_; rotate_left)); (first | refine aT 4 ?_ | refine aT2 4 ?_ | (refine aC 4 ?_ ?_; rotate_left)); (first | refine aT 5 ?_ | refine aT2 5 ?_ | (refine aC 5 ?_ ?_; rotate_left)); (first | refine aT 6 ?_ | refine aT2 6 ?_ | (refine aC 6 ?_ ?_; rotate_left)); (first | refine aT 7 ?_ | refine aT2 7 ?_ | (refine aC 7 ?_ ?_; rotate_left)); (first | refine aT 8 ?_ | refine aT2 8 ?_ | (refine aC 8 ?_ ?_; rotate_left)); (first | refine aT 9 ?_ | refine aT2 9 ?_ | (refine aC 9 ?_ ?_; rotate_left)); (first | refine aT 10 ?_ | refine aT2 10 ?_ | (refine aC 10 ?_ ?_; rotate_left)); (first | refine aT 11 ?_ | refine aT2 11 ?_ | (refine aC 11 ?_ ?_; rotate_left)); (refine aO 3 rfl (ch := [])  (pst_callv rfl rfl rfl rfl rfl m1 rfl rfl rfl ?_)); (refine aO 12 rfl (ch := [])  (pst_callv rfl rfl rfl rfl rfl m2 rfl rfl rfl ?_)); (refine aO 13 rfl (ch := [])  (pst_callv rfl rfl rfl rfl rfl ee rfl rfl rfl ?_)); (first | refine aT 14 ?_ | refine aT2 14 ?_ | (refine aC 14 ?_ ?_; rotate_left)); (first | refine aT 15 ?_ | refine aT2 15 ?_ | (refine aC 15 ?_ ?_; rotate_left)); (refine aO 16 rfl (ch := [_])  (pst_store rfl rfl rfl rfl Nat.zero_lt_one ?_)); (first | refine aT 17 ?_ | refine aT2 17 ?_ | (refine aC 17 ?_ ?_; rotate_left)); (refine any_done (by kernel_rfl) ?_)
      repeat' (first | ((with_reducible (show POps _ _ _ _ (_ :: _) _ _)); (first | refine pop_read rfl rfl rfl rfl trivial ?_ | refine pop_guard rfl rfl rfl rfl rfl qgd ?_ | refine pop_new rfl rfl rfl rfl trivial ?_ | refine pop_store rfl rfl rfl Nat.zero_lt_one ?_ | refine pop_read rfl rfl rfl rfl qrd ?_ | refine pop_read2 rfl rfl rfl rfl trivial ?_ | refine pop_store rfl rfl rfl qst ?_ | fail)) | refine pnil ?_ | refine kround_exit ?_ | refine kround_ret ?_ | refine kround_next ?_ | refine kseq_normal ?_ | refine pseq ?_ | refine pregion ?_ | refine pret ?_ | refine kseq_ret ?_ | refine pskip ?_ | refine pblock ?_ | refine pexit ?_ | refine kseq_exit ?_ | refine kblock_hit rfl ?_ | refine kblock_miss rfl ?_ | refine kblock_ret ?_ | refine kblock_normal ?_ | refine kloop_ret ?_ | refine kloop_exit ?_ | refine kcut_ret ?_ | refine kcut_exit ?_ | refine pcond_t rfl ?_ | refine pcond_f rfl ?_ | (with_reducible (show POps _ _ _ _ _ _ _); simp only [List.append_eq, List.cons_append, List.nil_append]))
      refine kretv rfl ⟨Nat.zero_lt_one, trivial, trivial⟩ rfl ?_
      rw [divR, if_pos (by simp [k1, k2]), if_neg hc0]; rfl
theorem ratioNeg_c (a b : Int) (h1 : -9223372036854775808 ≤ a) (h2 : a ≤ 9223372036854775807) : PureC G.P 44 [vr a b] (fun r => r = vRE (negR a b)) := by
  refine pure_of (G := G.toPg) (fn := Tryz.f44) Tryz.func44 rfl rfl rfl ?_; intro Γ hk
  repeat' (first | ((with_reducible (show POps _ _ _ _ (_ :: _) _ _)); (first | refine pop_read rfl rfl rfl rfl trivial ?_ | refine pop_guard rfl rfl rfl rfl rfl qgd ?_ | refine pop_new rfl rfl rfl rfl trivial ?_ | refine pop_store rfl rfl rfl Nat.zero_lt_one ?_ | refine pop_read rfl rfl rfl rfl qrd ?_ | refine pop_read2 rfl rfl rfl rfl trivial ?_ | refine pop_store rfl rfl rfl qst ?_ | refine pop_callv rfl rfl rfl rfl rfl (ratioValid_c _ _ (by assumption) (by assumption)) rfl rfl rfl ?_ | fail)) | refine pnil ?_ | refine kround_exit ?_ | refine kround_ret ?_ | refine kround_next ?_ | refine kseq_normal ?_ | refine pseq ?_ | refine pregion ?_ | refine pret ?_ | refine kseq_ret ?_ | refine pskip ?_ | refine pblock ?_ | refine pexit ?_ | refine kseq_exit ?_ | refine kblock_hit rfl ?_ | refine kblock_miss rfl ?_ | refine kblock_ret ?_ | refine kblock_normal ?_ | refine kloop_ret ?_ | refine kloop_exit ?_ | refine kcut_ret ?_ | refine kcut_exit ?_ | refine pcond_t rfl ?_ | refine pcond_f rfl ?_ | (with_reducible (show POps _ _ _ _ _ _ _); simp only [List.append_eq, List.cons_append, List.nil_append]))
  cases k1 : okR a b
  · repeat' (first | ((with_reducible (show POps _ _ _ _ (_ :: _) _ _)); (first | refine pop_read rfl rfl rfl rfl trivial ?_ | refine pop_guard rfl rfl rfl rfl rfl qgd ?_ | refine pop_new rfl rfl rfl rfl trivial ?_ | refine pop_store rfl rfl rfl Nat.zero_lt_one ?_ | refine pop_read rfl rfl rfl rfl qrd ?_ | refine pop_read2 rfl rfl rfl rfl trivial ?_ | refine pop_store rfl rfl rfl qst ?_ | fail)) | refine pnil ?_ | refine kround_exit ?_ | refine kround_ret ?_ | refine kround_next ?_ | refine kseq_normal ?_ | refine pseq ?_ | refine pregion ?_ | refine pret ?_ | refine kseq_ret ?_ | refine pskip ?_ | refine pblock ?_ | refine pexit ?_ | refine kseq_exit ?_ | refine kblock_hit rfl ?_ | refine kblock_miss rfl ?_ | refine kblock_ret ?_ | refine kblock_normal ?_ | refine kloop_ret ?_ | refine kloop_exit ?_ | refine kcut_ret ?_ | refine kcut_exit ?_ | refine pcond_t rfl ?_ | refine pcond_f rfl ?_ | (with_reducible (show POps _ _ _ _ _ _ _); simp only [List.append_eq, List.cons_append, List.nil_append]))
    refine kretv rfl ⟨Nat.zero_lt_one, trivial, trivial⟩ rfl ?_
    rw [negR, if_neg (by simp [k1])]; rfl
  · obtain ⟨r1, r2, r3, r4⟩ := okR_bd k1
    repeat' (first | ((with_reducible (show POps _ _ _ _ (_ :: _) _ _)); (first | refine pop_read rfl rfl rfl rfl trivial ?_ | refine pop_guard rfl rfl rfl rfl rfl qgd ?_ | refine pop_new rfl rfl rfl rfl trivial ?_ | refine pop_store rfl rfl rfl Nat.zero_lt_one ?_ | refine pop_read rfl rfl rfl rfl qrd ?_ | refine pop_read2 rfl rfl rfl rfl trivial ?_ | refine pop_store rfl rfl rfl qst ?_ | fail)) | refine pnil ?_ | refine kround_exit ?_ | refine kround_ret ?_ | refine kround_next ?_ | refine kseq_normal ?_ | refine pseq ?_ | refine pregion ?_ | refine pret ?_ | refine kseq_ret ?_ | refine pskip ?_ | refine pblock ?_ | refine pexit ?_ | refine kseq_exit ?_ | refine kblock_hit rfl ?_ | refine kblock_miss rfl ?_ | refine kblock_ret ?_ | refine kblock_normal ?_ | refine kloop_ret ?_ | refine kloop_exit ?_ | refine kcut_ret ?_ | refine kcut_exit ?_ | refine pcond_t rfl ?_ | refine pcond_f rfl ?_ | (with_reducible (show POps _ _ _ _ _ _ _); simp only [List.append_eq, List.cons_append, List.nil_append]))
    rw [w64 (by omega) (by omega)]
    refine kretv rfl ⟨Nat.zero_lt_one, trivial, trivial⟩ rfl ?_
    rw [negR, if_pos k1]
    show vRE ((0 - a, b), 0) = _
    rw [Int.zero_sub]
end Go.Proofs.YtdifpajpheemaaaGreatDoor
namespace Go.Proofs.YtdifpajpheemaaaGreatDoor
structure In where
  nm : ByteArray
  n : Int
  d : Int
abbrev cIn (x : In) : List PV := [vs x.nm, vi x.n, vi x.d]
theorem cIn_cl : CellsCl cIn := fun _ => ⟨trivial, trivial, trivial, trivial⟩
structure Pa where
  nm : ByteArray
  k : Nat
  f : Nat → Int × Int
abbrev cPa (x : Pa) : List PV := [vs x.nm, .vsl x.k 2 (tF cPr x.f)]
def sumR (f : Nat → Int × Int) : Nat → RE
  | 0 => (f 0, 0)
  | n + 1 => if (sumR f n).2 = 0 then addR (sumR f n).1.1 (sumR f n).1.2 (f (n + 1)).1 (f (n + 1)).2 else sumR f n
def meanS (k : Nat) (f : Nat → Int × Int) : RE :=
  if 120 < k then ((0, 0), 3) else if allK k (fun i => okR (f i).1 (f i).2) = false then ((0, 0), 1) else if k = 0 then ((0, 0), 16)
  else if (sumR f (k - 1)).2 = 0 then divR (sumR f (k - 1)).1.1 (sumR f (k - 1)).1.2 k 1 else ((0, 0), (sumR f (k - 1)).2)
def bestS (ef : Nat → En) (a b : Int) : Nat → Int
  | 0 => -1
  | n + 1 => if cmpR (ef n).1 1 a b ≤ 0 ∧ (bestS ef a b n < 0 ∨ (ef (bestS ef a b n).toNat).1 < (ef n).1) then n else bestS ef a b n
def entB (x : En) : Bool := okR x.2.1 x.2.2 && decide (-1000000000000 ≤ x.1 ∧ x.1 ≤ 1000000000000)
def lookS (n : Nat) (ef : Nat → En) (a b : Int) : RE :=
  if 64 < n then ((0, 0), 3) else if okR a b = false ∨ allK n (fun i => entB (ef i)) = false then ((0, 0), 1)
  else if bestS ef a b n < 0 then ((0, 0), 16) else ((ef (bestS ef a b n).toNat).2, 0)
def findPa (l : List Pa) (s : ByteArray) : Option Pa := l.find? fun p => p.nm.toList == s.toList
def avgS (P : List Pa) (s : ByteArray) (n : Int) : RE :=
  if n < 1 ∨ 120 < n then ((0, 0), 2) else match findPa P s with
  | none => ((0, 0), 16)
  | some p => meanS (min n.toNat p.k) p.f
def lastS' (P : List Pa) (s : ByteArray) (n : Int) : RE :=
  if n < 1 ∨ 120 < n then ((0, 0), 2) else match findPa P s with
  | none => ((0, 0), 16)
  | some p => if (p.k : Int) < n then ((0, 0), 16) else if okR (p.f (n.toNat - 1)).1 (p.f (n.toNat - 1)).2 = true then (p.f (n.toNat - 1), 0) else ((0, 0), 1)
def inS (N : List In) (s : ByteArray) : RE := match N.find? fun x => x.nm.toList == s.toList with
  | none => ((0, 0), 16)
  | some x => if okR x.n x.d = true then ((x.n, x.d), 0) else ((0, 0), 1)
def scaS (S : List Df) (s : ByteArray) (a b : Int) : RE := match S.find? fun d => decide (d.kind = 2) && (d.nm.toList == s.toList) with
  | none => ((0, 0), 16)
  | some d => lookS d.ne d.ef a b
def truS (b : Bool) : Int × Int := if b then (1, 1) else (0, 1)
def combS (op : Int) (a b : Int × Int) : RE :=
  if op = 5 then addR a.1 a.2 b.1 b.2 else if op = 6 then subR a.1 a.2 b.1 b.2 else if op = 7 then mulR a.1 a.2 b.1 b.2 else if op = 8 then divR a.1 a.2 b.1 b.2
  else if op = 9 then (truS (decide (cmpR a.1 a.2 b.1 b.2 < 0)), 0) else if op = 10 then (truS (decide (cmpR a.1 a.2 b.1 b.2 ≤ 0)), 0) else if op = 11 then (truS (decide (cmpR a.1 a.2 b.1 b.2 = 0)), 0)
  else if op = 14 then (if 0 < cmpR a.1 a.2 b.1 b.2 then b else a, 0) else (if cmpR a.1 a.2 b.1 b.2 < 0 then b else a, 0)
def evS (N : List In) (S : List Df) (P : List Pa) : Nat → Ex → RE
  | 0, _ => ((0, 0), 1)
  | n + 1, e =>
    if e.op = 1 then ((e.vn, e.vd), 0) else if e.op = 2 then ((e.cnt, 1), 0) else if e.op = 3 then inS N e.nm else if e.op = 20 then avgS P e.nm e.cnt else if e.op = 21 then lastS' P e.nm e.cnt
    else if (evS N S P n (e.kf 0)).2 ≠ 0 then ((0, 0), (evS N S P n (e.kf 0)).2)
    else if e.op = 4 then scaS S e.nm (evS N S P n (e.kf 0)).1.1 (evS N S P n (e.kf 0)).1.2
    else if e.op = 16 then negR (evS N S P n (e.kf 0)).1.1 (evS N S P n (e.kf 0)).1.2
    else if e.op = 17 then (truS (decide ((evS N S P n (e.kf 0)).1.1 = 0)), 0)
    else if e.op = 19 then roundR (evS N S P n (e.kf 0)).1.1 (evS N S P n (e.kf 0)).1.2 e.vn e.vd e.mode
    else if e.op = 18 then (if (evS N S P n (e.kf 0)).1.1 ≠ 0 then evS N S P n (e.kf 1) else evS N S P n (e.kf 2))
    else if e.op = 12 then (if (evS N S P n (e.kf 0)).1.1 = 0 then ((0, 1), 0) else evS N S P n (e.kf 1))
    else if e.op = 13 then (if (evS N S P n (e.kf 0)).1.1 ≠ 0 then ((1, 1), 0) else evS N S P n (e.kf 1))
    else if (evS N S P n (e.kf 1)).2 ≠ 0 then ((0, 0), (evS N S P n (e.kf 1)).2)
    else combS e.op (evS N S P n (e.kf 0)).1 (evS N S P n (e.kf 1)).1
def evalS (N : List In) (S : List Df) (P : List Pa) (e : Ex) : RE := if validS 32 e = true then evS N S P 32 e else ((0, 0), 1)
/-! ### what has no error is a fraction -/
def OkE (r : RE) : Prop := r.2 = 0 → okR r.1.1 r.1.2 = true
theorem fitG_zero2 (neg neg' : Bool) (m g : Int) : fitG neg 0 m g = fitG neg' 0 m g := by
  unfold fitG
  rw [Int.zero_ediv]
  cases neg <;> cases neg' <;> rfl
theorem newS_neg {n d : Int} (hd : d < 0) : newS n d = newS (-n) (-d) := by
  rw [newS, if_neg (by omega), newS, if_neg (by omega), Int.natAbs_neg, Int.natAbs_neg]
  by_cases hn : n = 0
  · subst hn; exact fitG_zero2 _ _ _ _
  · congr 1
    rw [decide_eq_true hd, decide_eq_false (show ¬ -d < 0 by omega)]
    by_cases h : n < 0
    · rw [decide_eq_true h, decide_eq_false (show ¬ -n < 0 by omega)]; rfl
    · rw [decide_eq_false h, decide_eq_true (show -n < 0 by omega)]; rfl
theorem newS_ok (n d : Int) (hd : d ≠ 0) : OkE (newS n d) := fun h => by
  rcases Int.lt_or_gt_of_ne hd with hd | hd
  · rw [newS_neg hd] at h ⊢; exact (newS_spec (by omega) h).1
  · exact (newS_spec hd h).1
theorem err_ok {a : Int × Int} {e : Int} (he : e ≠ 0) : OkE (a, e) := fun h => absurd h he
theorem addR_ok (a b c d : Int) : OkE (addR a b c d) := by
  unfold addR; split
  · rename_i h; simp at h
    obtain ⟨b1, b2, _, _⟩ := okR_bd h.1
    obtain ⟨d1, d2, _, _⟩ := okR_bd h.2
    exact newS_ok _ _ (Int.mul_ne_zero (by omega) (by omega))
  · exact err_ok (by decide)
theorem subR_ok (a b c d : Int) : OkE (subR a b c d) := by
  unfold subR; split
  · rename_i h; simp at h
    obtain ⟨b1, b2, _, _⟩ := okR_bd h.1
    obtain ⟨d1, d2, _, _⟩ := okR_bd h.2
    exact newS_ok _ _ (Int.mul_ne_zero (by omega) (by omega))
  · exact err_ok (by decide)
theorem mulR_ok (a b c d : Int) : OkE (mulR a b c d) := by
  unfold mulR; split
  · rename_i h; simp at h
    obtain ⟨b1, b2, _, _⟩ := okR_bd h.1
    obtain ⟨d1, d2, _, _⟩ := okR_bd h.2
    exact newS_ok _ _ (Int.mul_ne_zero (by omega) (by omega))
  · exact err_ok (by decide)
theorem divR_ok (a b c d : Int) : OkE (divR a b c d) := by
  unfold divR; split
  · rename_i h; simp at h
    obtain ⟨b1, b2, _, _⟩ := okR_bd h.1
    split
    · exact err_ok (by decide)
    · rename_i hc; exact newS_ok _ _ (Int.mul_ne_zero (by omega) hc)
  · exact err_ok (by decide)
theorem negR_ok (a b : Int) : OkE (negR a b) := by
  unfold negR; split
  · rename_i h
    intro _
    simp only [okR, decide_eq_true_eq] at h ⊢
    obtain ⟨h1, h2, h3, h4, h5⟩ := h
    exact ⟨h1, h2, by omega, by omega, by rw [Int.neg_gcd]; exact h5⟩
  · exact err_ok (by decide)
theorem roundR_ok (a b c d m : Int) : OkE (roundR a b c d m) := by
  unfold roundR; split
  · rename_i h; simp at h
    obtain ⟨d1, d2, _, _⟩ := okR_bd h.2
    split
    · exact err_ok (by decide)
    · exact newS_ok _ _ (by omega)
  · exact err_ok (by decide)
theorem truS_ok (b : Bool) : OkE (truS b, 0) := by cases b <;> exact fun _ => by decide
theorem meanS_ok (k : Nat) (f : Nat → Int × Int) : OkE (meanS k f) := by
  unfold meanS
  repeat' split
  · exact err_ok (by decide)
  · exact err_ok (by decide)
  · exact err_ok (by decide)
  · exact divR_ok _ _ _ _
  · rename_i h; exact err_ok h
theorem bestS_bd (ef : Nat → En) (a b : Int) (n : Nat) : -1 ≤ bestS ef a b n ∧ bestS ef a b n < n ∨ bestS ef a b n = -1 := by
  induction n with
  | zero => right; rfl
  | succ n ih => unfold bestS; split <;> omega
theorem lookS_ok (n : Nat) (ef : Nat → En) (a b : Int) : OkE (lookS n ef a b) := by
  unfold lookS
  split
  · exact err_ok (by decide)
  split
  · exact err_ok (by decide)
  split
  · exact err_ok (by decide)
  · rename_i h2 h3
    intro _
    have hb := bestS_bd ef a b n
    have h4 : allK n (fun i => entB (ef i)) = true := by cases h : allK n (fun i => entB (ef i)); exact absurd (Or.inr h) h2; rfl
    have := allK_iff.1 h4 (bestS ef a b n).toNat (by omega)
    simp only [entB, Bool.and_eq_true] at this
    exact this.1
theorem avgS_ok (P : List Pa) (s : ByteArray) (n : Int) : OkE (avgS P s n) := by
  unfold avgS
  split
  · exact err_ok (by decide)
  · split
    · exact err_ok (by decide)
    · exact meanS_ok _ _
theorem lastS_ok (P : List Pa) (s : ByteArray) (n : Int) : OkE (lastS' P s n) := by
  unfold lastS'
  split
  · exact err_ok (by decide)
  · split
    · exact err_ok (by decide)
    · split
      · exact err_ok (by decide)
      · split
        · rename_i h; exact fun _ => h
        · exact err_ok (by decide)
theorem inS_ok (N : List In) (s : ByteArray) : OkE (inS N s) := by
  unfold inS
  split
  · exact err_ok (by decide)
  · split
    · rename_i h; exact fun _ => h
    · exact err_ok (by decide)
theorem scaS_ok (S : List Df) (s : ByteArray) (a b : Int) : OkE (scaS S s a b) := by
  unfold scaS
  split
  · exact err_ok (by decide)
  · exact lookS_ok _ _ _ _
theorem combS_ok (op : Int) (a b : Int × Int) (ha : okR a.1 a.2 = true) (hb : okR b.1 b.2 = true) : OkE (combS op a b) := by
  unfold combS
  repeat' split
  · exact addR_ok _ _ _ _
  · exact subR_ok _ _ _ _
  · exact mulR_ok _ _ _ _
  · exact divR_ok _ _ _ _
  · exact truS_ok _
  · exact truS_ok _
  · exact truS_ok _
  · exact fun _ => hb
  · exact fun _ => ha
  · exact fun _ => hb
  · exact fun _ => ha
theorem validS_k {n : Nat} {e : Ex} {i : Nat} (h : validS (n + 1) e = true) (hi : i < e.nk) : validS n (e.kf i) = true := by
  unfold validS at h
  simp only [Bool.and_eq_true] at h
  exact allK_iff.1 h.2.2 i hi
theorem validS_nk {n : Nat} {e : Ex} (h : validS (n + 1) e = true) : (e.nk : Int) = kidsN e.op := by
  unfold validS at h
  simp only [Bool.and_eq_true, decide_eq_true_eq] at h
  exact h.1
theorem validS_f {n : Nat} {e : Ex} (h : validS (n + 1) e = true) : fieldS e = true := by
  unfold validS at h
  simp only [Bool.and_eq_true, decide_eq_true_eq] at h
  exact h.2.1
theorem evS_ok (N : List In) (S : List Df) (P : List Pa) : ∀ (n : Nat) (e : Ex), validS n e = true → OkE (evS N S P n e) := by
  intro n
  induction n with
  | zero => intro e h; simp [validS] at h
  | succ n ih =>
    intro e h
    have hn := validS_nk h
    have hf := validS_f h
    have hk : ∀ i, i < e.nk → OkE (evS N S P n (e.kf i)) := fun i hi => ih _ (validS_k h hi)
    unfold evS
    by_cases h1 : e.op = 1
    · rw [if_pos h1]
      intro _
      unfold fieldS at hf
      rw [if_pos h1] at hf
      simp only [Bool.and_eq_true] at hf
      have := hf.1
      unfold decS at this
      simp only [Bool.and_eq_true] at this
      exact this.1
    rw [if_neg h1]
    by_cases h2 : e.op = 2
    · rw [if_pos h2]
      unfold fieldS at hf
      simp only [Bool.and_eq_true] at hf
      have := hf.2.2.2.1
      rw [if_pos h2] at this
      simp at this
      rcases this with h | h <;> rw [h] <;> exact fun _ => by decide
    rw [if_neg h2]
    by_cases h3 : e.op = 3
    · rw [if_pos h3]; exact inS_ok _ _
    rw [if_neg h3]
    by_cases h20 : e.op = 20
    · rw [if_pos h20]; exact avgS_ok _ _ _
    rw [if_neg h20]
    by_cases h21 : e.op = 21
    · rw [if_pos h21]; exact lastS_ok _ _ _
    rw [if_neg h21]
    by_cases he : (evS N S P n (e.kf 0)).2 ≠ 0
    · rw [if_pos he]; exact err_ok he
    rw [if_neg he]
    have nk1 : 1 ≤ e.nk := by
      unfold kidsN at hn
      rw [if_neg (by omega)] at hn
      split at hn
      · omega
      split at hn
      · omega
      split at hn
      · omega
      · omega
    have k0 := hk 0 (by omega) (Decidable.not_not.1 he)
    by_cases h4 : e.op = 4
    · rw [if_pos h4]; exact scaS_ok _ _ _ _
    rw [if_neg h4]
    by_cases h16 : e.op = 16
    · rw [if_pos h16]; exact negR_ok _ _
    rw [if_neg h16]
    by_cases h17 : e.op = 17
    · rw [if_pos h17]; exact truS_ok _
    rw [if_neg h17]
    by_cases h19 : e.op = 19
    · rw [if_pos h19]; exact roundR_ok _ _ _ _ _
    rw [if_neg h19]
    have nk2 : 2 ≤ e.nk := by
      unfold kidsN at hn
      rw [if_neg (by omega), if_neg (by omega)] at hn
      split at hn
      · omega
      split at hn
      · omega
      · omega
    by_cases h18 : e.op = 18
    · rw [if_pos h18]
      have nk3 : e.nk = 3 := by
        have : kidsN e.op = 3 := by rw [h18]; rfl
        omega
      by_cases hc : (evS N S P n (e.kf 0)).1.1 ≠ 0
      · rw [if_pos hc]; exact hk 1 (by omega)
      · rw [if_neg hc]; exact hk 2 (by omega)
    rw [if_neg h18]
    by_cases h12 : e.op = 12
    · rw [if_pos h12]
      by_cases hc : (evS N S P n (e.kf 0)).1.1 = 0
      · rw [if_pos hc]; exact fun _ => by decide
      · rw [if_neg hc]; exact hk 1 (by omega)
    rw [if_neg h12]
    by_cases h13 : e.op = 13
    · rw [if_pos h13]
      by_cases hc : (evS N S P n (e.kf 0)).1.1 ≠ 0
      · rw [if_pos hc]; exact fun _ => by decide
      · rw [if_neg hc]; exact hk 1 (by omega)
    rw [if_neg h13]
    by_cases he1 : (evS N S P n (e.kf 1)).2 ≠ 0
    · rw [if_pos he1]; exact err_ok he1
    rw [if_neg he1]
    exact combS_ok _ _ _ k0 (hk 1 (by omega) (Decidable.not_not.1 he1))
end Go.Proofs.YtdifpajpheemaaaGreatDoor
