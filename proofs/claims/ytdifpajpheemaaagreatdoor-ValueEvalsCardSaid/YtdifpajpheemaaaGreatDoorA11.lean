/- payrollref2.Round. -/
import Derived.Test.YtdifpajpheemaaaGreatDoorA10
import Derived.Test.YtdifpajpheemaaaGreatDoorA07
import Derived.Test.YtdifpajpheemaaaGreatDoorA06
import Derived.Test.YtdifpajpheemaaaGreatDoorA05
set_option linter.unusedSimpArgs false
set_option linter.unusedVariables false
set_option maxRecDepth 100000
namespace Go.Proofs.YtdifpajpheemaaaGreatDoor
theorem ref2Round_c (a b c d mode : Int) (h1 : -9223372036854775808 ≤ a) (h2 : a ≤ 9223372036854775807) (h3 : -9223372036854775808 ≤ c) (h4 : c ≤ 9223372036854775807) : PureC G.P 51 [vr a b, vr c d, vi mode] (fun r => r = vRE (roundR a b c d mode)) := by
  refine pure_of (G := G.toPg) (fn := Tryz.f51) Tryz.func51 rfl rfl rfl ?_; intro Γ hk
  repeat' (first | ((with_reducible (show POps _ _ _ _ (_ :: _) _ _)); (first | refine pop_read rfl rfl rfl rfl trivial ?_ | refine pop_guard rfl rfl rfl rfl rfl qgd ?_ | refine pop_new rfl rfl rfl rfl trivial ?_ | refine pop_store rfl rfl rfl Nat.zero_lt_one ?_ | refine pop_read rfl rfl rfl rfl qrd ?_ | refine pop_read2 rfl rfl rfl rfl trivial ?_ | refine pop_store rfl rfl rfl qst ?_ | refine pop_callv rfl rfl rfl rfl rfl (ref1Valid_c _ _ (by assumption) (by assumption)) rfl rfl rfl ?_ | (refine pop_callgv rfl rfl rfl rfl rfl rfl (fun _ => ref1Valid_c _ _ (by assumption) (by assumption)) ?_ rfl rfl rfl ?_; (exact fun h => ⟨h, trivial⟩)) | fail)) | refine pnil ?_ | refine kround_exit ?_ | refine kround_ret ?_ | refine kround_next ?_ | refine kseq_normal ?_ | refine pseq ?_ | refine pregion ?_ | refine pret ?_ | refine kseq_ret ?_ | refine pskip ?_ | refine pblock ?_ | refine pexit ?_ | refine kseq_exit ?_ | refine kblock_hit rfl ?_ | refine kblock_miss rfl ?_ | refine kblock_ret ?_ | refine kblock_normal ?_ | refine kloop_ret ?_ | refine kloop_exit ?_ | refine kcut_ret ?_ | refine kcut_exit ?_ | refine pcond_t rfl ?_ | refine pcond_f rfl ?_ | (with_reducible (show POps _ _ _ _ _ _ _); simp only [List.append_eq, List.cons_append, List.nil_append]))
  refine pcond rfl ?_ ?_ <;> intro hc
  · repeat' (first | ((with_reducible (show POps _ _ _ _ (_ :: _) _ _)); (first | refine pop_read rfl rfl rfl rfl trivial ?_ | refine pop_guard rfl rfl rfl rfl rfl qgd ?_ | refine pop_new rfl rfl rfl rfl trivial ?_ | refine pop_store rfl rfl rfl Nat.zero_lt_one ?_ | refine pop_read rfl rfl rfl rfl qrd ?_ | refine pop_read2 rfl rfl rfl rfl trivial ?_ | refine pop_store rfl rfl rfl qst ?_ | fail)) | refine pnil ?_ | refine kround_exit ?_ | refine kround_ret ?_ | refine kround_next ?_ | refine kseq_normal ?_ | refine pseq ?_ | refine pregion ?_ | refine pret ?_ | refine kseq_ret ?_ | refine pskip ?_ | refine pblock ?_ | refine pexit ?_ | refine kseq_exit ?_ | refine kblock_hit rfl ?_ | refine kblock_miss rfl ?_ | refine kblock_ret ?_ | refine kblock_normal ?_ | refine kloop_ret ?_ | refine kloop_exit ?_ | refine kcut_ret ?_ | refine kcut_exit ?_ | refine pcond_t rfl ?_ | refine pcond_f rfl ?_ | (with_reducible (show POps _ _ _ _ _ _ _); simp only [List.append_eq, List.cons_append, List.nil_append]))
    refine kretv rfl ⟨Nat.zero_lt_one, trivial, trivial⟩ rfl ?_
    rw [roundR, if_neg (by cases k1 : okR a b <;> cases k2 : okR c d <;> simp_all)]; rfl
  · have hk : okR a b = true ∧ okR c d = true := by cases k1 : okR a b <;> cases k2 : okR c d <;> simp_all
    obtain ⟨k1, k2⟩ := hk
    obtain ⟨r1, r2, r3, r4⟩ := okR_bd k1
    obtain ⟨s1, s2, s3, s4⟩ := okR_bd k2
    obtain ⟨t1, t2⟩ := mul_bd r3 r4 s1 s2
    rw [roundR, if_pos (by simp [k1, k2])]
    repeat' (first | ((with_reducible (show POps _ _ _ _ (_ :: _) _ _)); (first | refine pop_read rfl rfl rfl rfl trivial ?_ | refine pop_guard rfl rfl rfl rfl rfl qgd ?_ | refine pop_new rfl rfl rfl rfl trivial ?_ | refine pop_store rfl rfl rfl Nat.zero_lt_one ?_ | refine pop_read rfl rfl rfl rfl qrd ?_ | refine pop_read2 rfl rfl rfl rfl trivial ?_ | refine pop_store rfl rfl rfl qst ?_ | (refine pop_callgv rfl rfl rfl rfl rfl rfl (fun _ => Mode_c _) ?_ rfl rfl rfl ?_; (exact fun h => ⟨h, trivial⟩)) | fail)) | refine pnil ?_ | refine kround_exit ?_ | refine kround_ret ?_ | refine kround_next ?_ | refine kseq_normal ?_ | refine pseq ?_ | refine pregion ?_ | refine pret ?_ | refine kseq_ret ?_ | refine pskip ?_ | refine pblock ?_ | refine pexit ?_ | refine kseq_exit ?_ | refine kblock_hit rfl ?_ | refine kblock_miss rfl ?_ | refine kblock_ret ?_ | refine kblock_normal ?_ | refine kloop_ret ?_ | refine kloop_exit ?_ | refine kcut_ret ?_ | refine kcut_exit ?_ | refine pcond_t rfl ?_ | refine pcond_f rfl ?_ | (with_reducible (show POps _ _ _ _ _ _ _); simp only [List.append_eq, List.cons_append, List.nil_append]))
    refine pcond rfl ?_ ?_ <;> intro hc1
    · simp at hc1
      rw [if_pos (by by_cases c ≤ 0 <;> simp_all)]
      repeat' (first | ((with_reducible (show POps _ _ _ _ (_ :: _) _ _)); (first | refine pop_read rfl rfl rfl rfl trivial ?_ | refine pop_guard rfl rfl rfl rfl rfl qgd ?_ | refine pop_new rfl rfl rfl rfl trivial ?_ | refine pop_store rfl rfl rfl Nat.zero_lt_one ?_ | refine pop_read rfl rfl rfl rfl qrd ?_ | refine pop_read2 rfl rfl rfl rfl trivial ?_ | refine pop_store rfl rfl rfl qst ?_ | fail)) | refine pnil ?_ | refine kround_exit ?_ | refine kround_ret ?_ | refine kround_next ?_ | refine kseq_normal ?_ | refine pseq ?_ | refine pregion ?_ | refine pret ?_ | refine kseq_ret ?_ | refine pskip ?_ | refine pblock ?_ | refine pexit ?_ | refine kseq_exit ?_ | refine kblock_hit rfl ?_ | refine kblock_miss rfl ?_ | refine kblock_ret ?_ | refine kblock_normal ?_ | refine kloop_ret ?_ | refine kloop_exit ?_ | refine kcut_ret ?_ | refine kcut_exit ?_ | refine pcond_t rfl ?_ | refine pcond_f rfl ?_ | (with_reducible (show POps _ _ _ _ _ _ _); simp only [List.append_eq, List.cons_append, List.nil_append]))
      refine kretv rfl ⟨Nat.zero_lt_one, trivial, trivial⟩ rfl ?_
      rfl
    · simp at hc1
      rw [if_neg (by simp_all)]
      have hm : modeB mode = true := by simp_all
      have hc0 : 1 ≤ c := by
        by_cases hcc : c ≤ 0 <;> simp_all <;> omega
      have hbc : 1 ≤ b * c ∧ b * c ≤ 1000000000000000000 := by
        have e1 : 1 * 1 ≤ b * c := Int.mul_le_mul r1 hc0 (by omega) (by omega)
        have e2 := mul_bd s3 s4 r1 r2
        have e3 : b * c = c * b := Int.mul_comm b c
        omega
      have hnear := rndS_near (a * d) (b * c) mode hbc.1
      have hab := abs_mul_le (q := rndS (a * d) (b * c) mode) r1 hc0 (M := 2000000000000000000) (by omega) (by omega)
      repeat' (first | ((with_reducible (show POps _ _ _ _ (_ :: _) _ _)); (first | refine pop_read rfl rfl rfl rfl trivial ?_ | refine pop_guard rfl rfl rfl rfl rfl qgd ?_ | refine pop_new rfl rfl rfl rfl trivial ?_ | refine pop_store rfl rfl rfl Nat.zero_lt_one ?_ | refine pop_read rfl rfl rfl rfl qrd ?_ | refine pop_read2 rfl rfl rfl rfl trivial ?_ | refine pop_store rfl rfl rfl qst ?_ | fail)) | refine pnil ?_ | refine kround_exit ?_ | refine kround_ret ?_ | refine kround_next ?_ | refine kseq_normal ?_ | refine pseq ?_ | refine pregion ?_ | refine pret ?_ | refine kseq_ret ?_ | refine pskip ?_ | refine pblock ?_ | refine pexit ?_ | refine kseq_exit ?_ | refine kblock_hit rfl ?_ | refine kblock_miss rfl ?_ | refine kblock_ret ?_ | refine kblock_normal ?_ | refine kloop_ret ?_ | refine kloop_exit ?_ | refine kcut_ret ?_ | refine kcut_exit ?_ | refine pcond_t rfl ?_ | refine pcond_f rfl ?_ | (with_reducible (show POps _ _ _ _ _ _ _); simp only [List.append_eq, List.cons_append, List.nil_append]))
      rw [w64 (n := a * d) (by omega) (by omega), w64 (n := b * c) (by omega) (by omega)]
      repeat' (first | ((with_reducible (show POps _ _ _ _ (_ :: _) _ _)); (first | refine pop_read rfl rfl rfl rfl trivial ?_ | refine pop_guard rfl rfl rfl rfl rfl qgd ?_ | refine pop_new rfl rfl rfl rfl trivial ?_ | refine pop_store rfl rfl rfl Nat.zero_lt_one ?_ | refine pop_read rfl rfl rfl rfl qrd ?_ | refine pop_read2 rfl rfl rfl rfl trivial ?_ | refine pop_store rfl rfl rfl qst ?_ | refine pop_callv rfl rfl rfl rfl rfl (nearest_c _ _ _ hm (by omega) (by omega) (by omega) (by omega)) rfl rfl rfl ?_ | fail)) | refine pnil ?_ | refine kround_exit ?_ | refine kround_ret ?_ | refine kround_next ?_ | refine kseq_normal ?_ | refine pseq ?_ | refine pregion ?_ | refine pret ?_ | refine kseq_ret ?_ | refine pskip ?_ | refine pblock ?_ | refine pexit ?_ | refine kseq_exit ?_ | refine kblock_hit rfl ?_ | refine kblock_miss rfl ?_ | refine kblock_ret ?_ | refine kblock_normal ?_ | refine kloop_ret ?_ | refine kloop_exit ?_ | refine kcut_ret ?_ | refine kcut_exit ?_ | refine pcond_t rfl ?_ | refine pcond_f rfl ?_ | (with_reducible (show POps _ _ _ _ _ _ _); simp only [List.append_eq, List.cons_append, List.nil_append]))
      rw [w64 (n := rndS (a * d) (b * c) mode * c) (by omega) (by omega)]
      repeat' (first | ((with_reducible (show POps _ _ _ _ (_ :: _) _ _)); (first | refine pop_read rfl rfl rfl rfl trivial ?_ | refine pop_guard rfl rfl rfl rfl rfl qgd ?_ | refine pop_new rfl rfl rfl rfl trivial ?_ | refine pop_store rfl rfl rfl Nat.zero_lt_one ?_ | refine pop_read rfl rfl rfl rfl qrd ?_ | refine pop_read2 rfl rfl rfl rfl trivial ?_ | refine pop_store rfl rfl rfl qst ?_ | refine pop_callv rfl rfl rfl rfl rfl (ref1New_c _ _ (by omega) (by omega) (by omega) (by omega)) rfl rfl rfl ?_ | fail)) | refine pnil ?_ | refine kround_exit ?_ | refine kround_ret ?_ | refine kround_next ?_ | refine kseq_normal ?_ | refine pseq ?_ | refine pregion ?_ | refine pret ?_ | refine kseq_ret ?_ | refine pskip ?_ | refine pblock ?_ | refine pexit ?_ | refine kseq_exit ?_ | refine kblock_hit rfl ?_ | refine kblock_miss rfl ?_ | refine kblock_ret ?_ | refine kblock_normal ?_ | refine kloop_ret ?_ | refine kloop_exit ?_ | refine kcut_ret ?_ | refine kcut_exit ?_ | refine pcond_t rfl ?_ | refine pcond_f rfl ?_ | (with_reducible (show POps _ _ _ _ _ _ _); simp only [List.append_eq, List.cons_append, List.nil_append]))
      refine kretv rfl ⟨Nat.zero_lt_one, trivial, trivial⟩ rfl ?_
      rfl
end Go.Proofs.YtdifpajpheemaaaGreatDoor
namespace Go.Proofs.YtdifpajpheemaaaGreatDoor
theorem lower_c (c : Int) : PureC G.P 122 [vy c] (fun r => r = vb (lowB c)) := by
  refine pure_of (G := G.toPg) (fn := Tryz.f122) Tryz.func122 rfl rfl rfl ?_; intro Γ hk
  repeat' (first | ((with_reducible (show POps _ _ _ _ (_ :: _) _ _)); (first | refine pop_read rfl rfl rfl rfl trivial ?_ | refine pop_guard rfl rfl rfl rfl rfl qgd ?_ | refine pop_new rfl rfl rfl rfl trivial ?_ | refine pop_store rfl rfl rfl Nat.zero_lt_one ?_ | refine pop_read rfl rfl rfl rfl qrd ?_ | refine pop_read2 rfl rfl rfl rfl trivial ?_ | refine pop_store rfl rfl rfl qst ?_ | fail)) | refine pnil ?_ | refine kround_exit ?_ | refine kround_ret ?_ | refine kround_next ?_ | refine kseq_normal ?_ | refine pseq ?_ | refine pregion ?_ | refine pret ?_ | refine kseq_ret ?_ | refine pskip ?_ | refine pblock ?_ | refine pexit ?_ | refine kseq_exit ?_ | refine kblock_hit rfl ?_ | refine kblock_miss rfl ?_ | refine kblock_ret ?_ | refine kblock_normal ?_ | refine kloop_ret ?_ | refine kloop_exit ?_ | refine kcut_ret ?_ | refine kcut_exit ?_ | refine pcond_t rfl ?_ | refine pcond_f rfl ?_ | (with_reducible (show POps _ _ _ _ _ _ _); simp only [List.append_eq, List.cons_append, List.nil_append]))
  refine kretv rfl ⟨trivial, trivial⟩ rfl (eqB ?_)
  rw [Bool.eq_iff_iff]; simp [lowB]
theorem digit_c (c : Int) : PureC G.P 123 [vy c] (fun r => r = vb (digB c)) := by
  refine pure_of (G := G.toPg) (fn := Tryz.f123) Tryz.func123 rfl rfl rfl ?_; intro Γ hk
  repeat' (first | ((with_reducible (show POps _ _ _ _ (_ :: _) _ _)); (first | refine pop_read rfl rfl rfl rfl trivial ?_ | refine pop_guard rfl rfl rfl rfl rfl qgd ?_ | refine pop_new rfl rfl rfl rfl trivial ?_ | refine pop_store rfl rfl rfl Nat.zero_lt_one ?_ | refine pop_read rfl rfl rfl rfl qrd ?_ | refine pop_read2 rfl rfl rfl rfl trivial ?_ | refine pop_store rfl rfl rfl qst ?_ | fail)) | refine pnil ?_ | refine kround_exit ?_ | refine kround_ret ?_ | refine kround_next ?_ | refine kseq_normal ?_ | refine pseq ?_ | refine pregion ?_ | refine pret ?_ | refine kseq_ret ?_ | refine pskip ?_ | refine pblock ?_ | refine pexit ?_ | refine kseq_exit ?_ | refine kblock_hit rfl ?_ | refine kblock_miss rfl ?_ | refine kblock_ret ?_ | refine kblock_normal ?_ | refine kloop_ret ?_ | refine kloop_exit ?_ | refine kcut_ret ?_ | refine kcut_exit ?_ | refine pcond_t rfl ?_ | refine pcond_f rfl ?_ | (with_reducible (show POps _ _ _ _ _ _ _); simp only [List.append_eq, List.cons_append, List.nil_append]))
  refine kretv rfl ⟨trivial, trivial⟩ rfl (eqB ?_)
  rw [Bool.eq_iff_iff]; simp [digB]
theorem word_c (s : ByteArray) (h0 : 0 < s.size) (hs : s.size ≤ 1000) : PureC G.P 114 [vs s, vi 0] (fun r => r = vi (wlenS s)) := by
  refine pure_of (G := G.toPg) (fn := Tryz.f114) Tryz.func114 rfl rfl rfl ?_; intro Γ hk
  repeat' (first | ((with_reducible (show POps _ _ _ _ (_ :: _) _ _)); (first | refine pop_read rfl rfl rfl rfl trivial ?_ | refine pop_guard rfl rfl rfl rfl rfl qgd ?_ | refine pop_new rfl rfl rfl rfl trivial ?_ | refine pop_store rfl rfl rfl Nat.zero_lt_one ?_ | refine pop_read rfl rfl rfl rfl qrd ?_ | refine pop_read2 rfl rfl rfl rfl trivial ?_ | refine pop_store rfl rfl rfl qst ?_ | (refine pop_guard2 rfl rfl rfl rfl rfl ?_ ?_; (exact fun h => ⟨h, h, by omega, by omega⟩)) | (refine pop_callgv rfl rfl rfl rfl rfl rfl (fun _ => lower_c (byteI s 0)) ?_ rfl rfl rfl ?_; (exact fun h => ⟨h, trivial⟩)) | fail)) | refine pnil ?_ | refine kround_exit ?_ | refine kround_ret ?_ | refine kround_next ?_ | refine kseq_normal ?_ | refine pseq ?_ | refine pregion ?_ | refine pret ?_ | refine kseq_ret ?_ | refine pskip ?_ | refine pblock ?_ | refine pexit ?_ | refine kseq_exit ?_ | refine kblock_hit rfl ?_ | refine kblock_miss rfl ?_ | refine kblock_ret ?_ | refine kblock_normal ?_ | refine kloop_ret ?_ | refine kloop_exit ?_ | refine kcut_ret ?_ | refine kcut_exit ?_ | refine pcond_t rfl ?_ | refine pcond_f rfl ?_ | (with_reducible (show POps _ _ _ _ _ _ _); simp only [List.append_eq, List.cons_append, List.nil_append]))
  refine pcond rfl ?_ ?_ <;> intro hc
  · have hl : lowB (byteI s 0) = false := by
      have hc : (bif decide ((s.size : Int) ≤ 0) then true else !lowB (byteI s 0)) = true := hc
      rw [decide_eq_false (by omega)] at hc
      simpa using hc
    repeat' (first | ((with_reducible (show POps _ _ _ _ (_ :: _) _ _)); (first | refine pop_read rfl rfl rfl rfl trivial ?_ | refine pop_guard rfl rfl rfl rfl rfl qgd ?_ | refine pop_new rfl rfl rfl rfl trivial ?_ | refine pop_store rfl rfl rfl Nat.zero_lt_one ?_ | refine pop_read rfl rfl rfl rfl qrd ?_ | refine pop_read2 rfl rfl rfl rfl trivial ?_ | refine pop_store rfl rfl rfl qst ?_ | fail)) | refine pnil ?_ | refine kround_exit ?_ | refine kround_ret ?_ | refine kround_next ?_ | refine kseq_normal ?_ | refine pseq ?_ | refine pregion ?_ | refine pret ?_ | refine kseq_ret ?_ | refine pskip ?_ | refine pblock ?_ | refine pexit ?_ | refine kseq_exit ?_ | refine kblock_hit rfl ?_ | refine kblock_miss rfl ?_ | refine kblock_ret ?_ | refine kblock_normal ?_ | refine kloop_ret ?_ | refine kloop_exit ?_ | refine kcut_ret ?_ | refine kcut_exit ?_ | refine pcond_t rfl ?_ | refine pcond_f rfl ?_ | (with_reducible (show POps _ _ _ _ _ _ _); simp only [List.append_eq, List.cons_append, List.nil_append]))
    refine kretv rfl ⟨trivial, trivial⟩ rfl (eqI ?_)
    rw [wlenS, hl]; rfl
  · have hl : lowB (byteI s 0) = true := by
      have hc : (bif decide ((s.size : Int) ≤ 0) then true else !lowB (byteI s 0)) = false := hc
      rw [decide_eq_false (by omega)] at hc
      simpa using hc
    rw [wlenS, if_pos hl]
    repeat' (first | ((with_reducible (show POps _ _ _ _ (_ :: _) _ _)); (first | refine pop_read rfl rfl rfl rfl trivial ?_ | refine pop_guard rfl rfl rfl rfl rfl qgd ?_ | refine pop_new rfl rfl rfl rfl trivial ?_ | refine pop_store rfl rfl rfl Nat.zero_lt_one ?_ | refine pop_read rfl rfl rfl rfl qrd ?_ | refine pop_read2 rfl rfl rfl rfl trivial ?_ | refine pop_store rfl rfl rfl qst ?_ | fail)) | refine pnil ?_ | refine kround_exit ?_ | refine kround_ret ?_ | refine kround_next ?_ | refine kseq_normal ?_ | refine pseq ?_ | refine pregion ?_ | refine pret ?_ | refine kseq_ret ?_ | refine pskip ?_ | refine pblock ?_ | refine pexit ?_ | refine kseq_exit ?_ | refine kblock_hit rfl ?_ | refine kblock_miss rfl ?_ | refine kblock_ret ?_ | refine kblock_normal ?_ | refine kloop_ret ?_ | refine kloop_exit ?_ | refine kcut_ret ?_ | refine kcut_exit ?_ | refine pcond_t rfl ?_ | refine pcond_f rfl ?_ | (with_reducible (show POps _ _ _ _ _ _ _); simp only [List.append_eq, List.cons_append, List.nil_append]))
    refine pcan (can_sel [0, 1]) ?_
    refine ploop (fun q st => ∃ n : Nat, n ≤ s.size ∧ scanW s (s.size - n) n = scanW s (s.size - 1) 1 ∧ q = s.size - n ∧ st = ⟨[(0, vs s), (1, vi n)], []⟩) s.size ⟨0, by omega, by rw [show s.size - 0 = (s.size - 1) + 1 by omega, scanW, if_pos (by simp [wrdB, hl])], rfl, rfl⟩ ?_
    rintro _ _ ⟨n, n2, hsc, rfl, rfl⟩
    repeat' (first | ((with_reducible (show POps _ _ _ _ (_ :: _) _ _)); (first | refine pop_read rfl rfl rfl rfl trivial ?_ | refine pop_guard rfl rfl rfl rfl rfl qgd ?_ | refine pop_new rfl rfl rfl rfl trivial ?_ | refine pop_store rfl rfl rfl Nat.zero_lt_one ?_ | refine pop_read rfl rfl rfl rfl qrd ?_ | refine pop_read2 rfl rfl rfl rfl trivial ?_ | refine pop_store rfl rfl rfl qst ?_ | (refine pop_guard2 rfl rfl rfl rfl rfl ?_ ?_; (exact fun h => ⟨h, h, by omega, by simp at h; omega⟩)) | (refine pop_callgv rfl rfl rfl rfl rfl rfl (fun _ => lower_c (byteI s (n : Int).toNat)) ?_ rfl rfl rfl ?_; (exact fun h => ⟨h, trivial⟩)) | (refine pop_callgv rfl rfl rfl rfl rfl rfl (fun _ => digit_c (byteI s (n : Int).toNat)) ?_ rfl rfl rfl ?_; (exact fun h => ⟨h, trivial⟩)) | fail)) | refine pnil ?_ | refine kround_exit ?_ | refine kround_ret ?_ | refine kround_next ?_ | refine kseq_normal ?_ | refine pseq ?_ | refine pregion ?_ | refine pret ?_ | refine kseq_ret ?_ | refine pskip ?_ | refine pblock ?_ | refine pexit ?_ | refine kseq_exit ?_ | refine kblock_hit rfl ?_ | refine kblock_miss rfl ?_ | refine kblock_ret ?_ | refine kblock_normal ?_ | refine kloop_ret ?_ | refine kloop_exit ?_ | refine kcut_ret ?_ | refine kcut_exit ?_ | refine pcond_t rfl ?_ | refine pcond_f rfl ?_ | (with_reducible (show POps _ _ _ _ _ _ _); simp only [List.append_eq, List.cons_append, List.nil_append]))
    refine pcond rfl ?_ ?_ <;> intro hc2
    · have hlt : n < s.size ∧ wrdB (byteI s n) = true := by
        have hc2 : (bif decide ((n : Int) < (s.size : Int)) then (bif (bif lowB (byteI s n) then true else digB (byteI s n)) then true else byteI s n == 95) else false) = true := hc2
        by_cases hn : n < s.size
        · refine ⟨hn, ?_⟩
          unfold wrdB
          cases h1 : lowB (byteI s n) <;> cases h2 : digB (byteI s n) <;> simp_all
        · simp [hn] at hc2
      repeat' (first | ((with_reducible (show POps _ _ _ _ (_ :: _) _ _)); (first | refine pop_read rfl rfl rfl rfl trivial ?_ | refine pop_guard rfl rfl rfl rfl rfl qgd ?_ | refine pop_new rfl rfl rfl rfl trivial ?_ | refine pop_store rfl rfl rfl Nat.zero_lt_one ?_ | refine pop_read rfl rfl rfl rfl qrd ?_ | refine pop_read2 rfl rfl rfl rfl trivial ?_ | refine pop_store rfl rfl rfl qst ?_ | fail)) | refine pnil ?_ | refine kround_exit ?_ | refine kround_ret ?_ | refine kround_next ?_ | refine kseq_normal ?_ | refine pseq ?_ | refine pregion ?_ | refine pret ?_ | refine kseq_ret ?_ | refine pskip ?_ | refine pblock ?_ | refine pexit ?_ | refine kseq_exit ?_ | refine kblock_hit rfl ?_ | refine kblock_miss rfl ?_ | refine kblock_ret ?_ | refine kblock_normal ?_ | refine kloop_ret ?_ | refine kloop_exit ?_ | refine kcut_ret ?_ | refine kcut_exit ?_ | refine pcond_t rfl ?_ | refine pcond_f rfl ?_ | (with_reducible (show POps _ _ _ _ _ _ _); simp only [List.append_eq, List.cons_append, List.nil_append]))
      rw [show IntKind.i64.wrap ((n : Int) + 1) = ((n + 1 : Nat) : Int) from w64 (by omega) (by omega)]
      refine kloop_next (s.size - (n + 1)) (can_sel [0, 1]) (by omega) ⟨n + 1, by omega, ?_, rfl, rfl⟩
      rw [← hsc, show s.size - n = (s.size - (n + 1)) + 1 by omega, scanW, if_pos hlt.2]
    · have hlt : ¬ n < s.size ∨ wrdB (byteI s n) = false := by
        have hc2 : (bif decide ((n : Int) < (s.size : Int)) then (bif (bif lowB (byteI s n) then true else digB (byteI s n)) then true else byteI s n == 95) else false) = false := hc2
        by_cases hn : n < s.size
        · refine .inr ?_
          unfold wrdB
          cases h1 : lowB (byteI s n) <;> cases h2 : digB (byteI s n) <;> simp_all
        · exact .inl hn
      repeat' (first | ((with_reducible (show POps _ _ _ _ (_ :: _) _ _)); (first | refine pop_read rfl rfl rfl rfl trivial ?_ | refine pop_guard rfl rfl rfl rfl rfl qgd ?_ | refine pop_new rfl rfl rfl rfl trivial ?_ | refine pop_store rfl rfl rfl Nat.zero_lt_one ?_ | refine pop_read rfl rfl rfl rfl qrd ?_ | refine pop_read2 rfl rfl rfl rfl trivial ?_ | refine pop_store rfl rfl rfl qst ?_ | fail)) | refine pnil ?_ | refine kround_exit ?_ | refine kround_ret ?_ | refine kround_next ?_ | refine kseq_normal ?_ | refine pseq ?_ | refine pregion ?_ | refine pret ?_ | refine kseq_ret ?_ | refine pskip ?_ | refine pblock ?_ | refine pexit ?_ | refine kseq_exit ?_ | refine kblock_hit rfl ?_ | refine kblock_miss rfl ?_ | refine kblock_ret ?_ | refine kblock_normal ?_ | refine kloop_ret ?_ | refine kloop_exit ?_ | refine kcut_ret ?_ | refine kcut_exit ?_ | refine pcond_t rfl ?_ | refine pcond_f rfl ?_ | (with_reducible (show POps _ _ _ _ _ _ _); simp only [List.append_eq, List.cons_append, List.nil_append]))
      refine kretv rfl ⟨trivial, trivial⟩ rfl (eqI ?_)
      rw [← hsc]
      rcases hlt with h | h
      · rw [show s.size - n = 0 by omega, scanW]
      · by_cases hn : n < s.size
        · rw [show s.size - n = (s.size - (n + 1)) + 1 by omega, scanW, if_neg (by rw [h]; simp)]
        · rw [show s.size - n = 0 by omega, scanW]
theorem kwS_symm (s : ByteArray) : kwS s = kwL.any (fun k => k.toList == s.toList) := by
  unfold kwS
  congr 1
  funext k
  exact BEq.comm
set_option maxHeartbeats 1000000 in
theorem isKeyword17_c (s : ByteArray) : PureC G.P 115 [vs s] (fun r => r = vb (kwS s)) := by
  refine pure_of (G := G.toPg) (fn := Tryz.f115) Tryz.func115 rfl rfl rfl ?_; intro Γ hk
  repeat' (first | ((with_reducible (show POps _ _ _ _ (_ :: _) _ _)); (first | refine pop_read rfl rfl rfl rfl trivial ?_ | refine pop_guard rfl rfl rfl rfl rfl qgd ?_ | refine pop_new rfl rfl rfl rfl trivial ?_ | refine pop_store rfl rfl rfl Nat.zero_lt_one ?_ | refine pop_read rfl rfl rfl rfl qrd ?_ | refine pop_read2 rfl rfl rfl rfl trivial ?_ | refine pop_store rfl rfl rfl qst ?_ | refine pop_make rfl rfl rfl rfl trivial ?_ | fail)) | refine pnil ?_ | refine kround_exit ?_ | refine kround_ret ?_ | refine kround_next ?_ | refine kseq_normal ?_ | refine pseq ?_ | refine pregion ?_ | refine pret ?_ | refine kseq_ret ?_ | refine pskip ?_ | refine pblock ?_ | refine pexit ?_ | refine kseq_exit ?_ | refine kblock_hit rfl ?_ | refine kblock_miss rfl ?_ | refine kblock_ret ?_ | refine kblock_normal ?_ | refine kloop_ret ?_ | refine kloop_exit ?_ | refine kcut_ret ?_ | refine kcut_exit ?_ | refine pcond_t rfl ?_ | refine pcond_f rfl ?_ | (with_reducible (show POps _ _ _ _ _ _ _); simp only [List.append_eq, List.cons_append, List.nil_append]))
  refine ploopN 40 ?_
  repeat' (first | ((with_reducible (show POps _ _ _ _ (_ :: _) _ _)); (first | refine pop_read rfl rfl rfl rfl trivial ?_ | refine pop_guard rfl rfl rfl rfl rfl qgd ?_ | refine pop_new rfl rfl rfl rfl trivial ?_ | refine pop_store rfl rfl rfl Nat.zero_lt_one ?_ | refine pop_read rfl rfl rfl rfl qrd ?_ | refine pop_read2 rfl rfl rfl rfl trivial ?_ | refine pop_store rfl rfl rfl qst ?_ | refine pop_read rfl rfl rfl rfl (by first | exact ⟨by decide, by decide⟩ | (show (_ : Nat) < _; decide)) ?_ | fail)) | refine pnil ?_ | refine kround_exit ?_ | refine kround_ret ?_ | refine kround_next ?_ | refine kseq_normal ?_ | refine pseq ?_ | refine pregion ?_ | refine pret ?_ | refine kseq_ret ?_ | refine pskip ?_ | refine pblock ?_ | refine pexit ?_ | refine kseq_exit ?_ | refine kblock_hit rfl ?_ | refine kblock_miss rfl ?_ | refine kblock_ret ?_ | refine kblock_normal ?_ | refine kloop_ret ?_ | refine kloop_exit ?_ | refine kcut_ret ?_ | refine kcut_exit ?_ | refine pcond_t rfl ?_ | refine pcond_f rfl ?_ | (with_reducible (show POps _ _ _ _ _ _ _); simp only [List.append_eq, List.cons_append, List.nil_append]) | (refine pcond rfl ?_ ?_ <;> intro hc))
  all_goals refine kretv rfl ⟨trivial, trivial⟩ rfl (eqB ?_)
  all_goals rw [kwS_symm]
  all_goals first
    | (simp only [kwL, List.any_cons, List.any_nil, *, Bool.or_true, Bool.true_or, Bool.or_false, Bool.false_or]; done)
theorem isName17_c (s : ByteArray) (hs : s.size ≤ 9223372036854775807) : PureC G.P 101 [vs s] (fun r => r = vb (nameS s)) := by
  have he := empty_iff s
  have hg : ((bif !(s.toList == ({ data := #[] } : ByteArray).toList) then decide ((s.size : Int) ≤ 24) else false) == true) = true → 0 < s.size ∧ s.size ≤ 24 := fun h => by
    rw [he] at h
    by_cases h1 : 0 < s.size
    · by_cases h2 : (s.size : Int) ≤ 24
      · omega
      · rw [decide_eq_true h1, decide_eq_false h2] at h; cases h
    · rw [decide_eq_false h1] at h; cases h
  refine pure_of (G := G.toPg) (fn := Tryz.f101) Tryz.func101 rfl rfl rfl ?_; intro Γ hk
  repeat' (first | ((with_reducible (show POps _ _ _ _ (_ :: _) _ _)); (first | refine pop_read rfl rfl rfl rfl trivial ?_ | refine pop_guard rfl rfl rfl rfl rfl qgd ?_ | refine pop_new rfl rfl rfl rfl trivial ?_ | refine pop_store rfl rfl rfl Nat.zero_lt_one ?_ | refine pop_read rfl rfl rfl rfl qrd ?_ | refine pop_read2 rfl rfl rfl rfl trivial ?_ | refine pop_store rfl rfl rfl qst ?_ | (refine pop_callgv rfl rfl rfl rfl rfl rfl (fun h => word_c s (hg h).1 (by have := hg h; omega)) ?_ rfl rfl rfl ?_; (exact fun h => ⟨h, trivial⟩)) | (refine pop_callgv rfl rfl rfl rfl rfl rfl (fun _ => isKeyword17_c s) ?_ rfl rfl rfl ?_; (exact fun h => ⟨h, trivial⟩)) | fail)) | refine pnil ?_ | refine kround_exit ?_ | refine kround_ret ?_ | refine kround_next ?_ | refine kseq_normal ?_ | refine pseq ?_ | refine pregion ?_ | refine pret ?_ | refine kseq_ret ?_ | refine pskip ?_ | refine pblock ?_ | refine pexit ?_ | refine kseq_exit ?_ | refine kblock_hit rfl ?_ | refine kblock_miss rfl ?_ | refine kblock_ret ?_ | refine kblock_normal ?_ | refine kloop_ret ?_ | refine kloop_exit ?_ | refine kcut_ret ?_ | refine kcut_exit ?_ | refine pcond_t rfl ?_ | refine pcond_f rfl ?_ | (with_reducible (show POps _ _ _ _ _ _ _); simp only [List.append_eq, List.cons_append, List.nil_append]))
  refine kretv rfl ⟨trivial, trivial⟩ rfl (eqB ?_)
  unfold nameS
  rw [he]
  have e2 : decide ((s.size : Int) ≤ 24) = decide (s.size ≤ 24) := by rw [Bool.eq_iff_iff]; simp only [decide_eq_true_eq]; omega
  have e3 : ((wlenS s : Int) == (s.size : Int)) = decide (wlenS s = s.size) := by rw [Bool.eq_iff_iff]; simp only [decide_eq_true_eq, beq_iff_eq]; omega
  rw [e2, e3, Bool.decide_and]
  cases decide (0 < s.size) <;> cases decide (s.size ≤ 24) <;> cases decide (wlenS s = s.size) <;> cases kwS s <;> rfl
end Go.Proofs.YtdifpajpheemaaaGreatDoor
namespace Go.Proofs.YtdifpajpheemaaaGreatDoor
theorem mode2_c (m : Int) : PureC G.P 72 [vi m] (fun r => r = vb (modeB m)) := by
  refine pure_of (G := G.toPg) (fn := Tryz.f72) Tryz.func72 rfl rfl rfl ?_; intro Γ hk
  repeat' (first | refine yo ?_ ?_ | refine yw ?_ ?_ | refine yk ?_ ?_ | exact trivial | with_reducible refine wA ?_ ?_ | refine ys ?_ ?_ | refine xs_done ?_ | refine yl ?_ ?_ | refine w8 ?_ | refine w9 ?_ | refine w1 ?_ | refine w2 ?_ | refine w3 ?_ | refine w4 ?_ | refine w5 ?_ | refine w6 ?_ | refine w7 ?_ | refine yo0 ?_ ?_ | refine yw0 ?_ ?_ | exact qq | fail)
  refine kretv rfl ⟨trivial, trivial⟩ rfl (eqB ?_)
  unfold modeB
  rw [Bool.eq_iff_iff]; simp
theorem isUnit18_c (m h d : Int) : PureC G.P 100 [.agg 3 (nthP [vi m, vi h, vi d])] (fun r => r = vb (unitS m h d)) := by
  refine pure_of (G := G.toPg) (fn := Tryz.f100) Tryz.func100 rfl rfl rfl ?_; intro Γ hk
  repeat' (first | refine yo ?_ ?_ | refine yw ?_ ?_ | refine yk ?_ ?_ | exact trivial | with_reducible refine wA ?_ ?_ | refine ys ?_ ?_ | refine xs_done ?_ | refine yl ?_ ?_ | refine w8 ?_ | refine w9 ?_ | refine w1 ?_ | refine w2 ?_ | refine w3 ?_ | refine w4 ?_ | refine w5 ?_ | refine w6 ?_ | refine w7 ?_ | refine yo0 ?_ ?_ | refine yw0 ?_ ?_ | exact qq | fail)
  refine kretv rfl ⟨trivial, trivial⟩ rfl (eqB ?_)
  unfold unitS
  rw [Bool.eq_iff_iff]; simp; omega
theorem isDecimal_c (n d : Int) (h1 : -9223372036854775808 ≤ n) (h2 : n ≤ 9223372036854775807) : PureC G.P 99 [vr n d] (fun r => r = vb (decS n d)) := by
  have c1 := ref1Valid_c n d h1 h2
  have hne : ((bif okR n d then decide (0 ≤ n) else false) == true) = true → d ≠ 0 := fun h => by
    cases ho : okR n d
    · rw [ho] at h; cases h
    · have := okR_bd ho; omega
  refine pure_of (G := G.toPg) (fn := Tryz.f99) Tryz.func99 rfl rfl rfl ?_; intro Γ hk
  repeat' (first | refine yo ?_ ?_ | refine yw ?_ ?_ | refine yk ?_ ?_ | exact trivial | with_reducible refine wA ?_ ?_ | refine ys ?_ ?_ | refine xs_done ?_ | refine yl ?_ ?_ | exact fun h => ⟨h, hne h⟩ | refine z1 c1 ?_ | refine z2 c1 ?_ | refine z3 c1 ?_ | refine z4 c1 ?_ | refine z5 c1 ?_ | refine w8 ?_ | refine w9 ?_ | refine w1 ?_ | refine w2 ?_ | refine w3 ?_ | refine w4 ?_ | refine w5 ?_ | refine w6 ?_ | refine w7 ?_ | refine yo0 ?_ ?_ | refine yw0 ?_ ?_ | exact qq | fail)
  refine kretv rfl ⟨trivial, trivial⟩ rfl (eqB ?_)
  unfold decS
  have e : (Int.tmod 1000000 d == 0) = decide (Int.tmod 1000000 d = 0) := by rw [Bool.eq_iff_iff]; simp
  rw [e]
  cases okR n d <;> cases decide (0 ≤ n) <;> cases decide (Int.tmod 1000000 d = 0) <;> rfl
set_option maxHeartbeats 2000000 in
theorem kids18_c (op : Int) : PureC G.P 69 [vi op] (fun r => r = vi (kidsN op)) := by
  refine pure_of (G := G.toPg) (fn := Tryz.f69) Tryz.func69 rfl rfl rfl ?_; intro Γ hk
  by_cases hr : 1 ≤ op ∧ op ≤ 21
  · obtain rfl | rfl | rfl | rfl | rfl | rfl | rfl | rfl | rfl | rfl | rfl | rfl | rfl | rfl | rfl | rfl | rfl | rfl | rfl | rfl | rfl : op = 1 ∨ op = 2 ∨ op = 3 ∨ op = 4 ∨ op = 5 ∨ op = 6 ∨ op = 7 ∨ op = 8 ∨ op = 9 ∨ op = 10 ∨ op = 11 ∨ op = 12 ∨ op = 13 ∨ op = 14 ∨ op = 15 ∨ op = 16 ∨ op = 17 ∨ op = 18 ∨ op = 19 ∨ op = 20 ∨ op = 21 := by omega
    all_goals
      repeat' (first | refine yo ?_ ?_ | refine yw ?_ ?_ | refine yk ?_ ?_ | exact trivial | with_reducible refine wA ?_ ?_ | refine ys ?_ ?_ | refine xs_done ?_ | refine yl ?_ ?_ | refine w8 ?_ | refine w9 ?_ | refine w1 ?_ | refine w2 ?_ | refine w3 ?_ | refine w4 ?_ | refine w5 ?_ | refine w6 ?_ | refine w7 ?_ | refine yo0 ?_ ?_ | refine yw0 ?_ ?_ | exact qq | fail)
      exact kretv rfl ⟨trivial, trivial⟩ rfl rfl
  · have e : kidsN op = -1 := by
      unfold kidsN
      rw [if_neg (by omega), if_neg (by omega), if_neg (by omega), if_neg (by omega)]
    repeat' (first | refine yo ?_ ?_ | refine yw ?_ ?_ | refine yk ?_ ?_ | exact trivial | with_reducible refine wA ?_ ?_ | refine ys ?_ ?_ | refine xs_done ?_ | refine yl ?_ ?_ | (refine pcond_n rfl (by simp; omega) ?_) | refine w8 ?_ | refine w9 ?_ | refine w1 ?_ | refine w2 ?_ | refine w3 ?_ | refine w4 ?_ | refine w5 ?_ | refine w6 ?_ | refine w7 ?_ | refine yo0 ?_ ?_ | refine yw0 ?_ ?_ | exact qq | fail)
    exact kretv rfl ⟨trivial, trivial⟩ rfl (eqI e.symm)
set_option maxHeartbeats 8000000 in
theorem own_c (e : Ex) (hv : -9223372036854775808 ≤ e.vn ∧ e.vn ≤ 9223372036854775807) (hs : e.nm.size ≤ 9223372036854775807) : PureC G.P 70 [vX e] (fun r => r = vb (fieldS e)) := by
  have c1 := isDecimal_c e.vn e.vd hv.1 hv.2
  have c3 := isUnit18_c e.um e.uh e.ud
  have c4 := isName17_c e.nm hs
  have c5 := mode2_c e.mode
  refine pure_of (G := G.toPg) (fn := Tryz.f70) Tryz.func70 rfl rfl rfl ?_; intro Γ hk
  by_cases hr : e.op = 1 ∨ e.op = 2 ∨ e.op = 3 ∨ e.op = 4 ∨ e.op = 19 ∨ e.op = 20 ∨ e.op = 21
  · rcases hr with h | h | h | h | h | h | h
    all_goals
      repeat' (first | refine yo ?_ ?_ | refine yw ?_ ?_ | refine yk ?_ ?_ | exact trivial | with_reducible refine wA ?_ ?_ | refine ys ?_ ?_ | refine xs_done ?_ | refine yl ?_ ?_ | refine xs_start (id := 1) true [.take 0, .take 1, .take 2, .take 3, .take 4, .take 5, .take 6, .take 7, .take 8, .take 9, .take 10, .take 11, .take 12, .take 13, .take 14, .take 15, .take 16, .take 17, .take 18, .take 19, .take 20, .take 21] 0 rfl rfl (by kernel_rfl) ?_ | refine xs_start (id := 4) true [.take 0, .take 1, .take 3, .take 4, .one 2, .one 5, .take 6, .take 7] 0 rfl rfl (by kernel_rfl) ?_ | refine xs_start (id := 11) true [.take 0, .take 1, .take 9, .take 10, .take 12, .take 13, .one 2, .take 3, .take 4, .take 5, .take 6, .take 7, .take 8, .one 11, .one 14, .take 15, .take 16, .take 17] 0 rfl rfl (by kernel_rfl) ?_ | refine xs_start (id := 14) true [.take 0, .take 1, .take 3, .take 4, .take 5, .one 2, .take 6, .take 7, .take 8, .take 9, .take 10, .take 11, .take 12] 0 rfl rfl (by kernel_rfl) ?_ | (refine pcond_y rfl (by rw [h]; rfl) ?_) | (refine pcond_n rfl (by rw [h]; rfl) ?_) | refine z1 c1 ?_ | refine z2 c1 ?_ | refine z3 c1 ?_ | refine z4 c1 ?_ | refine z5 c1 ?_ | refine z1 c3 ?_ | refine z2 c3 ?_ | refine z3 c3 ?_ | refine z4 c3 ?_ | refine z5 c3 ?_ | refine z1 c4 ?_ | refine z2 c4 ?_ | refine z3 c4 ?_ | refine z4 c4 ?_ | refine z5 c4 ?_ | refine z1 c5 ?_ | refine z2 c5 ?_ | refine z3 c5 ?_ | refine z4 c5 ?_ | refine z5 c5 ?_ | refine w8 ?_ | refine w9 ?_ | refine w1 ?_ | refine w2 ?_ | refine w3 ?_ | refine w4 ?_ | refine w5 ?_ | refine w6 ?_ | refine w7 ?_ | refine yo0 ?_ ?_ | refine yw0 ?_ ?_ | exact qq | fail)
      refine kretv rfl ⟨trivial, trivial⟩ rfl (eqB ?_)
      simp [fieldS, h, bqd, Bool.and_assoc] <;> ac_rfl
  · repeat' (first | refine yo ?_ ?_ | refine yw ?_ ?_ | refine yk ?_ ?_ | exact trivial | with_reducible refine wA ?_ ?_ | refine ys ?_ ?_ | refine xs_done ?_ | refine yl ?_ ?_ | refine xs_start (id := 1) true [.take 0, .take 1, .take 2, .take 3, .take 4, .take 5, .take 6, .take 7, .take 8, .take 9, .take 10, .take 11, .take 12, .take 13, .take 14, .take 15, .take 16, .take 17, .take 18, .take 19, .take 20, .take 21] 0 rfl rfl (by kernel_rfl) ?_ | refine xs_start (id := 4) true [.take 0, .take 1, .take 3, .take 4, .one 2, .one 5, .take 6, .take 7] 0 rfl rfl (by kernel_rfl) ?_ | refine xs_start (id := 11) true [.take 0, .take 1, .take 9, .take 10, .take 12, .take 13, .one 2, .take 3, .take 4, .take 5, .take 6, .take 7, .take 8, .one 11, .one 14, .take 15, .take 16, .take 17] 0 rfl rfl (by kernel_rfl) ?_ | refine xs_start (id := 14) true [.take 0, .take 1, .take 3, .take 4, .take 5, .one 2, .take 6, .take 7, .take 8, .take 9, .take 10, .take 11, .take 12] 0 rfl rfl (by kernel_rfl) ?_ | (refine pcond_n rfl (by simp; omega) ?_) | refine w8 ?_ | refine w9 ?_ | refine w1 ?_ | refine w2 ?_ | refine w3 ?_ | refine w4 ?_ | refine w5 ?_ | refine w6 ?_ | refine w7 ?_ | refine yo0 ?_ ?_ | refine yw0 ?_ ?_ | exact qq | fail)
    refine kretv rfl ⟨trivial, trivial⟩ rfl (eqB ?_)
    have e1 : ¬ e.op = 1 := by omega
    have e2 : ¬ e.op = 2 := by omega
    have e3 : ¬ e.op = 3 := by omega
    have e4 : ¬ e.op = 4 := by omega
    have e5 : ¬ e.op = 19 := by omega
    have e6 : ¬ e.op = 20 := by omega
    have e7 : ¬ e.op = 21 := by omega
    simp [fieldS, e1, e2, e3, e4, e5, e6, e7, bqd, Bool.and_assoc] <;> ac_rfl
theorem peqK18 (e : Ex) : PEq (.vsl e.nk 10 e.kc) (.vsl e.nk 10 (tF cX e.kf)) := peq_vsl rfl fun i hi j hj => by rw [kc_eq (by omega)]
abbrev rX18 (e : Ex) : Row := ⟨.own, true, 1, 10, fun _ => nthP [vi e.op, vi e.vn, vi e.vd, vi e.um, vi e.uh, vi e.ud, vs e.nm, vi e.cnt, vi e.mode, .vsl e.nk 10 (tF cX e.kf)]⟩
theorem rX18_cl (e : Ex) : rowCl (rX18 e) := fun i _ j _ => clL_nth _ j ⟨trivial, trivial, trivial, trivial, trivial, trivial, trivial, trivial, trivial, trivial, trivial⟩
set_option maxHeartbeats 4000000 in
theorem within_c : ∀ (n : Nat) (e : Ex), n ≤ 1000 → Bd e → PureC G.P 48 [vX e, vi n] (fun r => r = vb (validS n e))
  | 0, e, _, hb => by
    have c1 := kids18_c e.op
    have c2 := own_c e hb.v hb.s
    refine pure_of (G := G.toPg) (fn := Tryz.f48) Tryz.func48 rfl rfl rfl ?_; intro Γ hk
    repeat' (first | refine yo ?_ ?_ | refine yw ?_ ?_ | refine yk ?_ ?_ | exact trivial | with_reducible refine wA ?_ ?_ | refine ys ?_ ?_ | refine xs_done ?_ | refine yl ?_ ?_ | refine xs_start (id := 1) true [.take 0, .take 1, .take 2, .take 3, .take 4, .take 5, .take 6, .take 7, .one 8, .take 9, .take 10, .take 11, .take 12, .one 13, .take 14, .take 15] 0 rfl rfl (by kernel_rfl) ?_ | refine z1 c1 ?_ | refine z2 c1 ?_ | refine z3 c1 ?_ | refine z4 c1 ?_ | refine z5 c1 ?_ | refine z1 c2 ?_ | refine z2 c2 ?_ | refine z3 c2 ?_ | refine z4 c2 ?_ | refine z5 c2 ?_ | refine w8 ?_ | refine w9 ?_ | refine w1 ?_ | refine w2 ?_ | refine w3 ?_ | refine w4 ?_ | refine w5 ?_ | refine w6 ?_ | refine w7 ?_ | refine yo0 ?_ ?_ | refine yw0 ?_ ?_ | exact qq | fail)
    exact kretv rfl ⟨trivial, trivial⟩ rfl rfl
  | n + 1, e, hn, hb => by
    have c1 := kids18_c e.op
    have c2 := own_c e hb.v hb.s
    have hw : IntKind.i64.wrap (((n + 1 : Nat) : Int) - 1) = n := by rw [w64 (by omega) (by omega)]; omega
    have c3 : ∀ i, i < e.nk → PureC G.P 48 [vX (e.kf i), vi (IntKind.i64.wrap (((n + 1 : Nat) : Int) - 1))] (fun r => r = vb (validS n (e.kf i))) := fun i hi => by
      rw [hw]; exact within_c n (e.kf i) (by omega) (hb.k hi)
    have hk3 := kidsN_le e.op
    refine pure_of (G := G.toPg) (fn := Tryz.f48) Tryz.func48 rfl rfl rfl ?_; intro Γ hk
    repeat' (first | refine yo ?_ ?_ | refine yw ?_ ?_ | refine yk ?_ ?_ | exact trivial | with_reducible refine wA ?_ ?_ | refine ys ?_ ?_ | refine xs_done ?_ | refine yl ?_ ?_ | refine xs_start (id := 1) true [.take 0, .take 1, .take 2, .take 3, .take 4, .take 5, .take 6, .take 7, .one 8, .take 9, .take 10, .take 11, .take 12, .one 13, .take 14, .take 15] 0 rfl rfl (by kernel_rfl) ?_ | refine z1 c1 ?_ | refine z2 c1 ?_ | refine z3 c1 ?_ | refine z4 c1 ?_ | refine z5 c1 ?_ | refine z1 c2 ?_ | refine z2 c2 ?_ | refine z3 c2 ?_ | refine z4 c2 ?_ | refine z5 c2 ?_ | refine w8 ?_ | refine w9 ?_ | refine w1 ?_ | refine w2 ?_ | refine w3 ?_ | refine w4 ?_ | refine w5 ?_ | refine w6 ?_ | refine w7 ?_ | refine yo0 ?_ ?_ | refine yw0 ?_ ?_ | exact qq | fail)
    refine pcond (b := !(decide ((e.nk : Int) = kidsN e.op) && fieldS e)) ?_ ?_ ?_
    · refine eqB ?_
      rw [decide_eq_false (show ¬ (((n + 1 : Nat) : Int) < 1) by omega), show ((e.nk : Int) != kidsN e.op) = !decide ((e.nk : Int) = kidsN e.op) from by rw [← bqd]; rfl]
      cases decide ((e.nk : Int) = kidsN e.op) <;> cases fieldS e <;> rfl
    · intro h
      repeat' (first | refine yo ?_ ?_ | refine yw ?_ ?_ | refine yk ?_ ?_ | exact trivial | with_reducible refine wA ?_ ?_ | refine ys ?_ ?_ | refine xs_done ?_ | refine yl ?_ ?_ | refine w8 ?_ | refine w9 ?_ | refine w1 ?_ | refine w2 ?_ | refine w3 ?_ | refine w4 ?_ | refine w5 ?_ | refine w6 ?_ | refine w7 ?_ | refine yo0 ?_ ?_ | refine yw0 ?_ ?_ | exact qq | fail)
      refine kretv rfl ⟨trivial, trivial⟩ rfl (eqB ?_)
      rw [validS]
      revert h
      cases decide ((e.nk : Int) = kidsN e.op) <;> cases fieldS e <;> simp
    · intro h
      have h1 : (e.nk : Int) = kidsN e.op ∧ fieldS e = true := by
        revert h
        by_cases hn : (e.nk : Int) = kidsN e.op <;> cases fieldS e <;> simp [hn]
      obtain ⟨h1, h2⟩ := h1
      repeat' (first | refine yo ?_ ?_ | refine yw ?_ ?_ | refine yk ?_ ?_ | exact trivial | with_reducible refine wA ?_ ?_ | refine ys ?_ ?_ | refine xs_done ?_ | refine yl ?_ ?_ | refine w8 ?_ | refine w9 ?_ | refine w1 ?_ | refine w2 ?_ | refine w3 ?_ | refine w4 ?_ | refine w5 ?_ | refine w6 ?_ | refine w7 ?_ | refine yo0 ?_ ?_ | refine yw0 ?_ ?_ | exact qq | fail)
      refine pcan (st' := ⟨[(1, vi ((n + 1 : Nat) : Int)), (2, .ptr 0 0 0), (5, vi ((0 : Nat) : Int))], [rX18 e]⟩) (can_rowsv [0] (k0_sel hk rfl) rfl (.cons rfl (var_eq ⟨PEq.refl _, PEq.refl _, PEq.refl _, PEq.refl _, PEq.refl _, PEq.refl _, PEq.refl _, PEq.refl _, PEq.refl _, peqK18 e, trivial⟩) .nil) tmq) ?_
      refine ploop (fun q st => ∃ i : Nat, i ≤ e.nk ∧ (∀ j, j < i → validS n (e.kf j) = true) ∧ q = e.nk - i ∧ st = ⟨[(1, vi ((n + 1 : Nat) : Int)), (2, .ptr 0 0 0), (5, vi i)], [rX18 e]⟩) e.nk ⟨0, by omega, fun j hj => by omega, by omega, rfl⟩ ?_
      rintro _ _ ⟨i, hi, hv, rfl, rfl⟩
      repeat' (first | refine yo ?_ ?_ | refine yw ?_ ?_ | refine yk ?_ ?_ | exact trivial | with_reducible refine wA ?_ ?_ | refine ys ?_ ?_ | refine xs_done ?_ | refine yl ?_ ?_ | refine w8 ?_ | refine w9 ?_ | refine w1 ?_ | refine w2 ?_ | refine w3 ?_ | refine w4 ?_ | refine w5 ?_ | refine w6 ?_ | refine w7 ?_ | refine yo0 ?_ ?_ | refine yw0 ?_ ?_ | exact qq | fail)
      refine pcond rfl ?_ ?_ <;> intro hc <;> simp at hc
      · have c4 := c3 i hc
        repeat' (first | refine yo ?_ ?_ | refine yw ?_ ?_ | refine yk ?_ ?_ | exact trivial | with_reducible refine wA ?_ ?_ | refine ys ?_ ?_ | refine xs_done ?_ | refine yl ?_ ?_ | refine z1 c4 ?_ | refine z2 c4 ?_ | refine z3 c4 ?_ | refine z4 c4 ?_ | refine z5 c4 ?_ | refine w8 ?_ | refine w9 ?_ | refine w1 ?_ | refine w2 ?_ | refine w3 ?_ | refine w4 ?_ | refine w5 ?_ | refine w6 ?_ | refine w7 ?_ | refine yo0 ?_ ?_ | refine yw0 ?_ ?_ | exact qq | fail)
        refine pcond rfl ?_ ?_ <;> intro hc2
        · have hf : validS n (e.kf i) = false := by simpa using hc2
          repeat' (first | refine yo ?_ ?_ | refine yw ?_ ?_ | refine yk ?_ ?_ | exact trivial | with_reducible refine wA ?_ ?_ | refine ys ?_ ?_ | refine xs_done ?_ | refine yl ?_ ?_ | refine w8 ?_ | refine w9 ?_ | refine w1 ?_ | refine w2 ?_ | refine w3 ?_ | refine w4 ?_ | refine w5 ?_ | refine w6 ?_ | refine w7 ?_ | refine yo0 ?_ ?_ | refine yw0 ?_ ?_ | exact qq | fail)
          refine kretv rfl ⟨trivial, trivial⟩ rfl (eqB ?_)
          rw [validS, allK_no hc hf]; simp
        · have hf : validS n (e.kf i) = true := by simpa using hc2
          repeat' (first | refine yo ?_ ?_ | refine yw ?_ ?_ | refine yk ?_ ?_ | exact trivial | with_reducible refine wA ?_ ?_ | refine ys ?_ ?_ | refine xs_done ?_ | refine yl ?_ ?_ | refine w8 ?_ | refine w9 ?_ | refine w1 ?_ | refine w2 ?_ | refine w3 ?_ | refine w4 ?_ | refine w5 ?_ | refine w6 ?_ | refine w7 ?_ | refine yo0 ?_ ?_ | refine yw0 ?_ ?_ | exact qq | fail)
          rw [show IntKind.i64.wrap ((i : Int) + 1) = ((i + 1 : Nat) : Int) from w64 (by omega) (by omega)]
          exact kloop_next (st' := ⟨[(1, vi ((n + 1 : Nat) : Int)), (2, .ptr 0 0 0), (5, vi ((i + 1 : Nat) : Int))], [rX18 e]⟩) (e.nk - (i + 1)) (can_rowsv [0] (k0_sel hk rfl) rfl (.cons rfl (RowEq.cl (rX18_cl e)) .nil) tmq) (by omega) ⟨i + 1, by omega, fun j hj => by
            by_cases e : j = i
            · subst e; exact hf
            · exact hv j (by omega), rfl, rfl⟩
      · repeat' (first | refine yo ?_ ?_ | refine yw ?_ ?_ | refine yk ?_ ?_ | exact trivial | with_reducible refine wA ?_ ?_ | refine ys ?_ ?_ | refine xs_done ?_ | refine yl ?_ ?_ | refine w8 ?_ | refine w9 ?_ | refine w1 ?_ | refine w2 ?_ | refine w3 ?_ | refine w4 ?_ | refine w5 ?_ | refine w6 ?_ | refine w7 ?_ | refine yo0 ?_ ?_ | refine yw0 ?_ ?_ | exact qq | fail)
        refine kretv rfl ⟨trivial, trivial⟩ rfl (eqB ?_)
        rw [validS, decide_eq_true h1, h2, allK_iff.2 fun j hj => hv j (by omega)]; rfl
theorem validExpr18_c (e : Ex) (hb : Bd e) : PureC G.P 28 [vX e] (fun r => r = vb (validS 32 e)) := by
  have c1 := within_c 32 e (by omega) hb
  refine pure_of (G := G.toPg) (fn := Tryz.f28) Tryz.func28 rfl rfl rfl ?_; intro Γ hk
  repeat' (first | refine yo ?_ ?_ | refine yw ?_ ?_ | refine yk ?_ ?_ | exact trivial | with_reducible refine wA ?_ ?_ | refine ys ?_ ?_ | refine xs_done ?_ | refine yl ?_ ?_ | refine z1 c1 ?_ | refine z2 c1 ?_ | refine z3 c1 ?_ | refine z4 c1 ?_ | refine z5 c1 ?_ | refine w8 ?_ | refine w9 ?_ | refine w1 ?_ | refine w2 ?_ | refine w3 ?_ | refine w4 ?_ | refine w5 ?_ | refine w6 ?_ | refine w7 ?_ | refine yo0 ?_ ?_ | refine yw0 ?_ ?_ | exact qq | fail)
  exact kretv rfl ⟨trivial, trivial⟩ rfl rfl
def wS : Nat → (Nat → Nat) → Nat
  | 0, _ => 0
  | n + 1, g => wS n g + g n
def Ex.w : Ex → Nat
  | .nil => 0
  | .mk _ _ _ _ _ _ _ _ _ nk kf => 1 + wS nk fun i => (kf i).w
theorem wS_congr {n : Nat} {g h : Nat → Nat} (e : ∀ i, i < n → g i = h i) : wS n g = wS n h := by
  induction n with
  | zero => rfl
  | succ n ih => simp only [wS]; rw [ih fun i hi => e i (by omega), e n (by omega)]
theorem wS_le {n : Nat} {g h : Nat → Nat} {d x : Nat} (e : ∀ i, i < n → i ≠ x → g i ≤ h i) (ex : g x ≤ h x + d) : wS n g ≤ wS n h + (if x < n then d else 0) := by
  induction n with
  | zero => exact Nat.zero_le _
  | succ n ih =>
    have ih := ih fun i hi hne => e i (by omega) hne
    simp only [wS]
    by_cases h1 : x = n
    · subst h1
      rw [if_neg (by omega)] at ih
      rw [if_pos (by omega)]; omega
    · have h2 := e n (by omega) (fun h => h1 h.symm)
      by_cases h3 : x < n
      · rw [if_pos h3] at ih; rw [if_pos (by omega)]; omega
      · rw [if_neg h3] at ih; rw [if_neg (by omega)]; omega
theorem wS_le2 {n : Nat} {g h : Nat → Nat} {d x : Nat} (e : ∀ i, i < n → i ≠ x → g i ≤ h i) (ex : g x ≤ h x + d) : wS n g ≤ wS n h + d := Nat.le_trans (wS_le e ex) (by split <;> omega)
theorem w_kids (e : Ex) : (wS e.nk fun i => (e.kf i).w) ≤ e.w := by
  cases e with
  | nil => exact Nat.zero_le _
  | mk => exact Nat.le_add_left _ 1
theorem w_set (e : Ex) {op vn vd um uh ud : Int} {nm : ByteArray} {cnt mode : Int} : (Ex.mk op vn vd um uh ud nm cnt mode e.nk e.kf).w ≤ e.w + 1 := by
  have := w_kids e
  simp only [Ex.w]; omega
def pw3 : Nat → Nat
  | 0 => 0
  | n + 1 => 1 + 3 * pw3 n
theorem w_valid : ∀ (n : Nat) (e : Ex), validS n e = true → e.w ≤ pw3 n
  | 0, _, h => by cases h
  | n + 1, e, h => by
    simp only [validS, Bool.and_eq_true, decide_eq_true_eq] at h
    obtain ⟨h1, _, h3⟩ := h
    have h3 := allK_iff.1 h3
    have hk := kidsN_le e.op
    cases e with
    | nil => exact Nat.zero_le _
    | mk op vn vd um uh ud nm cnt mode nk kf =>
      have hn : nk ≤ 3 := by
        have : (nk : Int) ≤ 3 := by
          have h1 : (nk : Int) = kidsN op := h1
          have hk : kidsN op ≤ 3 := hk
          omega
        omega
      have hw : ∀ i, i < nk → (kf i).w ≤ pw3 n := fun i hi => w_valid n (kf i) (h3 i hi)
      simp only [Ex.w, pw3]
      match nk, hn, hw with
      | 0, _, _ => simp only [wS]; omega
      | 1, _, hw => have := hw 0 (by omega); simp only [wS]; omega
      | 2, _, hw => have := hw 0 (by omega); have := hw 1 (by omega); simp only [wS]; omega
      | 3, _, hw => have := hw 0 (by omega); have := hw 1 (by omega); have := hw 2 (by omega); simp only [wS]; omega
      | n + 4, h, _ => exact absurd h (by omega)
end Go.Proofs.YtdifpajpheemaaaGreatDoor
