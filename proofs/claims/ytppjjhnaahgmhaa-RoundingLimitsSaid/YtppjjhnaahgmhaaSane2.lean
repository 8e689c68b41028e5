/- sane. -/
import Derived.Test.YtppjjhnaahgmhaaAlr
import Derived.Test.YtppjjhnaahgmhaaCh2
set_option linter.unusedSimpArgs false
set_option linter.unusedVariables false
set_option maxRecDepth 100000
namespace Go.Proofs.Ytppjjhnaahgmhaa
theorem cents1 : PureC G.P 36 [vr 5 2, vi 4] (fun r => r = vIE (3, 0)) := (roundingCents_c 5 2 4 (by omega) (by omega)).mono (by rintro r rfl; rw [show centsR 5 2 4 = (3, 0) by decide +kernel])
theorem cents2 : PureC G.P 36 [vr (-5) 2, vi 6] (fun r => r = vIE (-2, 0)) := (roundingCents_c (-5) 2 6 (by omega) (by omega)).mono (by rintro r rfl; rw [show centsR (-5) 2 6 = (-2, 0) by decide +kernel])
theorem part1 : PureC G.P 18 [vi 10, vi 1, vi 4, vi 1, vi 6] (fun r => r = vIE (2, 0)) := (roundingPart_c 10 1 4 1 6).mono (by rintro r rfl; rw [show partR 10 1 4 1 6 = (2, 0) by decide +kernel])
abbrev w111 (a : Nat) : Int := ([1, 1, 1] : List Int).getD a 0
theorem alc1 : (alcS 3 (-100) w111).1.1 = 3 ∧ (alcS 3 (-100) w111).2 = 0 ∧ (alcS 3 (-100) w111).1.2 0 = -34 ∧ (alcS 3 (-100) w111).1.2 2 = -33 := by decide +kernel
theorem sane_c : PureC G.P 17 [] (fun r => r = vb true) := by
  obtain ⟨a1, a2, a3, a4⟩ := alc1
  have hal := ralloc_c 3 (-100) w111 (by omega) (by omega)
  generalize alcS 3 (-100) w111 = X at *
  obtain ⟨⟨m, f⟩, e⟩ := X
  simp only at a1 a2 a3 a4
  subst a1 a2
  have hal : PureC G.P 15 [vi (-100), .vsl 3 1 (tI w111)] (fun r => r = .tup 2 (nthP [.vsl 3 1 (tI f), vi 0])) := hal
  refine pure_of (G := G.toPg) (fn := Try.f17) Try.func17 rfl rfl rfl ?_; intro Γ hk
  repeat' (first | ((with_reducible (show POps _ _ _ _ (_ :: _) _ _)); (first | refine pop_read rfl rfl rfl rfl trivial ?_ | refine pop_guard rfl rfl rfl rfl rfl qgd ?_ | refine pop_new rfl rfl rfl rfl trivial ?_ | refine pop_store rfl rfl rfl Nat.zero_lt_one ?_ | refine pop_read rfl rfl rfl rfl qrd ?_ | refine pop_read2 rfl rfl rfl rfl trivial ?_ | refine pop_store rfl rfl rfl qst ?_ | refine pop_callv rfl rfl rfl rfl rfl cents1 rfl rfl rfl ?_ | refine pop_callv rfl rfl rfl rfl rfl cents2 rfl rfl rfl ?_ | refine pop_make rfl rfl rfl rfl trivial ?_ | fail)) | refine pnil ?_ | refine kround_exit ?_ | refine kround_ret ?_ | refine kround_next ?_ | refine kseq_normal ?_ | refine pseq ?_ | refine pregion ?_ | refine pret ?_ | refine kseq_ret ?_ | refine pskip ?_ | refine pblock ?_ | refine pexit ?_ | refine kseq_exit ?_ | refine kblock_hit rfl ?_ | refine kblock_miss rfl ?_ | refine kblock_ret ?_ | refine kblock_normal ?_ | refine kloop_ret ?_ | refine kloop_exit ?_ | refine kcut_ret ?_ | refine kcut_exit ?_ | refine pcond_t rfl ?_ | refine pcond_f rfl ?_ | (with_reducible (show POps _ _ _ _ _ _ _); simp only [List.append_eq, List.cons_append, List.nil_append]))
  refine pop_callc [0] rfl rfl rfl rfl rfl rfl (by intro l hl; rw [hk]; exact Nat.zero_le _) hal ⟨argVal, argPick (ps := [vi 1, vi 1, vi 1]) rfl (by decide) rfl rfl, trivial⟩ ?_
  rintro _ rfl
  repeat' (first | ((with_reducible (show POps _ _ _ _ (_ :: _) _ _)); (first | refine pop_read rfl rfl rfl rfl trivial ?_ | refine pop_guard rfl rfl rfl rfl rfl qgd ?_ | refine pop_new rfl rfl rfl rfl trivial ?_ | refine pop_store rfl rfl rfl Nat.zero_lt_one ?_ | refine pop_read rfl rfl rfl rfl qrd ?_ | refine pop_read2 rfl rfl rfl rfl trivial ?_ | refine pop_store rfl rfl rfl qst ?_ | refine pop_callv rfl rfl rfl rfl rfl part1 rfl rfl rfl ?_ | refine pop_guard rfl rfl rfl rfl rfl (by first | exact fun h => ⟨h, by decide, by decide⟩ | exact fun h => ⟨h, by decide⟩) ?_ | fail)) | refine pnil ?_ | refine kround_exit ?_ | refine kround_ret ?_ | refine kround_next ?_ | refine kseq_normal ?_ | refine pseq ?_ | refine pregion ?_ | refine pret ?_ | refine kseq_ret ?_ | refine pskip ?_ | refine pblock ?_ | refine pexit ?_ | refine kseq_exit ?_ | refine kblock_hit rfl ?_ | refine kblock_miss rfl ?_ | refine kblock_ret ?_ | refine kblock_normal ?_ | refine kloop_ret ?_ | refine kloop_exit ?_ | refine kcut_ret ?_ | refine kcut_exit ?_ | refine pcond_t rfl ?_ | refine pcond_f rfl ?_ | (with_reducible (show POps _ _ _ _ _ _ _); simp only [List.append_eq, List.cons_append, List.nil_append]))
  refine kretv rfl ⟨trivial, trivial⟩ rfl (eqB ?_)
  have b3 : f (0 : Int).toNat = -34 := a3
  have b4 : f (2 : Int).toNat = -33 := a4
  simp [b3, b4, a3, a4]
end Go.Proofs.Ytppjjhnaahgmhaa
