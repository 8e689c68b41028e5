/- RoundingMonotone. -/
import Derived.Test.YtppjjhnaahgmhaaSane2
import Derived.Test.YtppjjhnaahgmhaaBridge
import Derived.Test.YtppjjhnaahgmhaaGen
import Derived.Test.YtppjjhnaahgmhaaRnd1
set_option linter.unusedSimpArgs false
set_option linter.unusedVariables false
set_option maxRecDepth 100000
namespace Go.Proofs.Ytppjjhnaahgmhaa
theorem rmono_c (n : Nat) (g : Nat → Int) (mode : Int) (hn : n ≤ 9223372036854775807) :
    PureC G.P 7 [.vsl n 1 (tI g), vi mode] (fun r => r = vb true) := by
  refine pure_of (G := G.toPg) (fn := Try.f7) Try.func7 rfl rfl rfl ?_; intro Γ hk
  repeat' (first | ((with_reducible (show POps _ _ _ _ (_ :: _) _ _)); (first | refine pop_read rfl rfl rfl rfl trivial ?_ | (refine pop_guard rfl rfl rfl rfl rfl ?_ ?_; (first | exact fun _ => trivial | exact fun h => ⟨h, trivial⟩ | exact fun h => ⟨h, h, trivial⟩ | exact fun _ => Nat.zero_lt_one | exact fun h => ⟨h, Nat.zero_lt_one⟩)) | refine pop_new rfl rfl rfl rfl trivial ?_ | refine pop_store rfl rfl rfl Nat.zero_lt_one ?_ | (refine pop_read rfl rfl rfl rfl ?_ ?_; (first | exact Nat.zero_lt_one | exact pk_t | exact pk_f | exact (show (_ : Int) ≠ 0 from by omega) | (refine And.intro ?_ ?_ <;> omega) | exact (show (_ : Nat) < _ from by omega))) | refine pop_read2 rfl rfl rfl rfl trivial ?_)) | refine pnil ?_ | refine kround_exit ?_ | refine kround_ret ?_ | refine kround_next ?_ | refine kseq_normal ?_ | refine pseq ?_ | refine pregion ?_ | refine pret ?_ | refine kseq_ret ?_ | refine pskip ?_ | refine pblock ?_ | refine pexit ?_ | refine kseq_exit ?_ | refine kblock_hit rfl ?_ | refine kblock_miss rfl ?_ | refine kblock_ret ?_ | refine kblock_normal ?_ | refine kloop_ret ?_ | refine kloop_exit ?_ | refine kcut_ret ?_ | refine kcut_exit ?_ | refine pcond_t rfl ?_ | refine pcond_f rfl ?_)
  refine pop_rowsc [] rfl rfl rfl rfl rfl rfl .nil (new_c n g) (by exact ⟨PEq.refl _, trivial⟩) ?_
  rintro r rows ⟨rfl, rfl⟩
  refine ⟨_, _, rfl, ⟨tape_cl _ _ _, trivial⟩, rfl, ?_⟩
  have b1 : (0 : Int) ≤ 0 := by omega
  have b2 : (0 : Int) ≤ n := by omega
  repeat' (first | ((with_reducible (show POps _ _ _ _ (_ :: _) _ _)); (first | refine pop_read rfl rfl rfl rfl trivial ?_ | (refine pop_guard rfl rfl rfl rfl rfl ?_ ?_; (first | exact fun _ => trivial | exact fun h => ⟨h, trivial⟩ | exact fun h => ⟨h, h, trivial⟩ | exact fun _ => Nat.zero_lt_one | exact fun h => ⟨h, Nat.zero_lt_one⟩)) | refine pop_new rfl rfl rfl rfl trivial ?_ | refine pop_store rfl rfl rfl Nat.zero_lt_one ?_ | (refine pop_read rfl rfl rfl rfl ?_ ?_; (first | exact Nat.zero_lt_one | exact pk_t | exact pk_f | exact (show (_ : Int) ≠ 0 from by omega) | (refine And.intro ?_ ?_ <;> omega) | exact (show (_ : Nat) < _ from by omega))) | refine pop_read2 rfl rfl rfl rfl trivial ?_)) | refine pnil ?_ | refine kround_exit ?_ | refine kround_ret ?_ | refine kround_next ?_ | refine kseq_normal ?_ | refine pseq ?_ | refine pregion ?_ | refine pret ?_ | refine kseq_ret ?_ | refine pskip ?_ | refine pblock ?_ | refine pexit ?_ | refine kseq_exit ?_ | refine kblock_hit rfl ?_ | refine kblock_miss rfl ?_ | refine kblock_ret ?_ | refine kblock_normal ?_ | refine kloop_ret ?_ | refine kloop_exit ?_ | refine kcut_ret ?_ | refine kcut_exit ?_ | refine pcond_t rfl ?_ | refine pcond_f rfl ?_)
  refine pop_tap (G := G) rfl rfl rfl rfl rfl rfl rfl rfl (fun _ => rfl) (ratio_t) hn (by assumption) (by assumption) rfl rfl ?_; rintro at_ _ b1 b2 ⟨a, b, rfl, hab⟩
  repeat' (first | ((with_reducible (show POps _ _ _ _ (_ :: _) _ _)); (first | refine pop_read rfl rfl rfl rfl trivial ?_ | (refine pop_guard rfl rfl rfl rfl rfl ?_ ?_; (first | exact fun _ => trivial | exact fun h => ⟨h, trivial⟩ | exact fun h => ⟨h, h, trivial⟩ | exact fun _ => Nat.zero_lt_one | exact fun h => ⟨h, Nat.zero_lt_one⟩)) | refine pop_new rfl rfl rfl rfl trivial ?_ | refine pop_store rfl rfl rfl Nat.zero_lt_one ?_ | (refine pop_read rfl rfl rfl rfl ?_ ?_; (first | exact Nat.zero_lt_one | exact pk_t | exact pk_f | exact (show (_ : Int) ≠ 0 from by omega) | (refine And.intro ?_ ?_ <;> omega) | exact (show (_ : Nat) < _ from by omega))) | refine pop_read2 rfl rfl rfl rfl trivial ?_)) | refine pnil ?_ | refine kround_exit ?_ | refine kround_ret ?_ | refine kround_next ?_ | refine kseq_normal ?_ | refine pseq ?_ | refine pregion ?_ | refine pret ?_ | refine kseq_ret ?_ | refine pskip ?_ | refine pblock ?_ | refine pexit ?_ | refine kseq_exit ?_ | refine kblock_hit rfl ?_ | refine kblock_miss rfl ?_ | refine kblock_ret ?_ | refine kblock_normal ?_ | refine kloop_ret ?_ | refine kloop_exit ?_ | refine kcut_ret ?_ | refine kcut_exit ?_ | refine pcond_t rfl ?_ | refine pcond_f rfl ?_)
  refine pop_tap (G := G) rfl rfl rfl rfl rfl rfl rfl rfl (fun _ => rfl) (ratio_t) hn (by assumption) (by assumption) rfl rfl ?_; rintro at_ _ b1 b2 ⟨a', b', rfl, hab'⟩
  repeat' (first | ((with_reducible (show POps _ _ _ _ (_ :: _) _ _)); (first | refine pop_read rfl rfl rfl rfl trivial ?_ | (refine pop_guard rfl rfl rfl rfl rfl ?_ ?_; (first | exact fun _ => trivial | exact fun h => ⟨h, trivial⟩ | exact fun h => ⟨h, h, trivial⟩ | exact fun _ => Nat.zero_lt_one | exact fun h => ⟨h, Nat.zero_lt_one⟩)) | refine pop_new rfl rfl rfl rfl trivial ?_ | refine pop_store rfl rfl rfl Nat.zero_lt_one ?_ | (refine pop_read rfl rfl rfl rfl ?_ ?_; (first | exact Nat.zero_lt_one | exact pk_t | exact pk_f | exact (show (_ : Int) ≠ 0 from by omega) | (refine And.intro ?_ ?_ <;> omega) | exact (show (_ : Nat) < _ from by omega))) | refine pop_read2 rfl rfl rfl rfl trivial ?_)) | refine pnil ?_ | refine kround_exit ?_ | refine kround_ret ?_ | refine kround_next ?_ | refine kseq_normal ?_ | refine pseq ?_ | refine pregion ?_ | refine pret ?_ | refine kseq_ret ?_ | refine pskip ?_ | refine pblock ?_ | refine pexit ?_ | refine kseq_exit ?_ | refine kblock_hit rfl ?_ | refine kblock_miss rfl ?_ | refine kblock_ret ?_ | refine kblock_normal ?_ | refine kloop_ret ?_ | refine kloop_exit ?_ | refine kcut_ret ?_ | refine kcut_exit ?_ | refine pcond_t rfl ?_ | refine pcond_f rfl ?_)
  refine pop_tap (G := G) rfl rfl rfl rfl rfl rfl rfl rfl (fun _ => rfl) (step_t) hn (by assumption) (by assumption) rfl rfl ?_; rintro at_ _ b1 b2 ⟨c, d, rfl, hs⟩
  have q1 := okR_bd hab
  have q2 := okR_bd hab'
  have q3 := okR_bd hs.ok
  have hm : modeB (mode % 7) = true := by
    have := Int.emod_nonneg mode (show (7 : Int) ≠ 0 by omega)
    have := Int.emod_lt_of_pos mode (show (0 : Int) < 7 by omega)
    simp [modeB]; omega
  repeat' (first | ((with_reducible (show POps _ _ _ _ (_ :: _) _ _)); (first | refine pop_read rfl rfl rfl rfl trivial ?_ | (refine pop_guard rfl rfl rfl rfl rfl ?_ ?_; (first | exact fun _ => trivial | exact fun h => ⟨h, trivial⟩ | exact fun h => ⟨h, h, trivial⟩ | exact fun _ => Nat.zero_lt_one | exact fun h => ⟨h, Nat.zero_lt_one⟩)) | refine pop_new rfl rfl rfl rfl trivial ?_ | refine pop_store rfl rfl rfl Nat.zero_lt_one ?_ | (refine pop_read rfl rfl rfl rfl ?_ ?_; (first | exact Nat.zero_lt_one | exact pk_t | exact pk_f | exact (show (_ : Int) ≠ 0 from by omega) | (refine And.intro ?_ ?_ <;> omega) | exact (show (_ : Nat) < _ from by omega))) | refine pop_read2 rfl rfl rfl rfl trivial ?_ | refine pop_callv rfl rfl rfl rfl rfl (mod_c mode 7 (by omega) (by omega)) rfl rfl rfl ?_ | refine pop_callv rfl rfl rfl rfl rfl (roundingRound_c _ _ _ _ _ (by omega) (by omega) (by omega) (by omega)) rfl rfl rfl ?_)) | refine pnil ?_ | refine kround_exit ?_ | refine kround_ret ?_ | refine kround_next ?_ | refine kseq_normal ?_ | refine pseq ?_ | refine pregion ?_ | refine pret ?_ | refine kseq_ret ?_ | refine pskip ?_ | refine pblock ?_ | refine pexit ?_ | refine kseq_exit ?_ | refine kblock_hit rfl ?_ | refine kblock_miss rfl ?_ | refine kblock_ret ?_ | refine kblock_normal ?_ | refine kloop_ret ?_ | refine kloop_exit ?_ | refine kcut_ret ?_ | refine kcut_exit ?_ | refine pcond_t rfl ?_ | refine pcond_f rfl ?_)
  refine pcond rfl ?_ ?_ <;> intro hc
  · repeat' (first | ((with_reducible (show POps _ _ _ _ (_ :: _) _ _)); (first | refine pop_read rfl rfl rfl rfl trivial ?_ | (refine pop_guard rfl rfl rfl rfl rfl ?_ ?_; (first | exact fun _ => trivial | exact fun h => ⟨h, trivial⟩ | exact fun h => ⟨h, h, trivial⟩ | exact fun _ => Nat.zero_lt_one | exact fun h => ⟨h, Nat.zero_lt_one⟩)) | refine pop_new rfl rfl rfl rfl trivial ?_ | refine pop_store rfl rfl rfl Nat.zero_lt_one ?_ | (refine pop_read rfl rfl rfl rfl ?_ ?_; (first | exact Nat.zero_lt_one | exact pk_t | exact pk_f | exact (show (_ : Int) ≠ 0 from by omega) | (refine And.intro ?_ ?_ <;> omega) | exact (show (_ : Nat) < _ from by omega))) | refine pop_read2 rfl rfl rfl rfl trivial ?_ | (refine pop_callgv rfl rfl rfl rfl rfl rfl (fun _ => sane_c) ?_ rfl rfl rfl ?_; (first | exact fun _ => trivial | exact fun h => ⟨h, trivial⟩)))) | refine pnil ?_ | refine kround_exit ?_ | refine kround_ret ?_ | refine kround_next ?_ | refine kseq_normal ?_ | refine pseq ?_ | refine pregion ?_ | refine pret ?_ | refine kseq_ret ?_ | refine pskip ?_ | refine pblock ?_ | refine pexit ?_ | refine kseq_exit ?_ | refine kblock_hit rfl ?_ | refine kblock_miss rfl ?_ | refine kblock_ret ?_ | refine kblock_normal ?_ | refine kloop_ret ?_ | refine kloop_exit ?_ | refine kcut_ret ?_ | refine kcut_exit ?_ | refine pcond_t rfl ?_ | refine pcond_f rfl ?_)
    refine kretv rfl ⟨trivial, trivial⟩ rfl (eqB ?_)
    have k1 : (roundR a b c d (mode % 7)).2 = 4 ∨ (roundR a' b' c d (mode % 7)).2 = 4 := by
      by_cases e : (roundR a b c d (mode % 7)).2 = 0
      · by_cases f : (roundR a' b' c d (mode % 7)).2 = 0
        · rw [e, f] at hc; simp at hc
        · exact .inr (roundR_err4 hab' hs.ok hs.pos hm f)
      · exact .inl (roundR_err4 hab hs.ok hs.pos hm e)
    generalize (roundR a b c d (mode % 7)).2 = e at *
    generalize (roundR a' b' c d (mode % 7)).2 = f at *
    rcases k1 with rfl | rfl
    · rfl
    · by_cases he : e = 4 <;> simp [he]
  · have hc' : (roundR a b c d (mode % 7)).2 = 0 ∧ (roundR a' b' c d (mode % 7)).2 = 0 := by
      generalize (roundR a b c d (mode % 7)).2 = e at *
      generalize (roundR a' b' c d (mode % 7)).2 = f at *
      by_cases he : e = 0
      · subst he; simp at hc; exact ⟨rfl, hc⟩
      · simp [he] at hc
    obtain ⟨x, y, e1, e2, e3⟩ := roundR_ok hab hs.ok hs.pos hm hc'.1
    obtain ⟨x', y', e1', e2', e3'⟩ := roundR_ok hab' hs.ok hs.pos hm hc'.2
    have q4 := okR_bd e2
    have q5 := okR_bd e2'
    have hag := roundR_again hab hs.ok hs.pos hm e1 e2 e3
    have hmn := roundR_mono hab hab' hs.ok hs.pos e2 e3 e2' e3'
    rw [e1, e1'] at *
    repeat' (first | ((with_reducible (show POps _ _ _ _ (_ :: _) _ _)); (first | refine pop_read rfl rfl rfl rfl trivial ?_ | (refine pop_guard rfl rfl rfl rfl rfl ?_ ?_; (first | exact fun _ => trivial | exact fun h => ⟨h, trivial⟩ | exact fun h => ⟨h, h, trivial⟩ | exact fun _ => Nat.zero_lt_one | exact fun h => ⟨h, Nat.zero_lt_one⟩)) | refine pop_new rfl rfl rfl rfl trivial ?_ | refine pop_store rfl rfl rfl Nat.zero_lt_one ?_ | (refine pop_read rfl rfl rfl rfl ?_ ?_; (first | exact Nat.zero_lt_one | exact pk_t | exact pk_f | exact (show (_ : Int) ≠ 0 from by omega) | (refine And.intro ?_ ?_ <;> omega) | exact (show (_ : Nat) < _ from by omega))) | refine pop_read2 rfl rfl rfl rfl trivial ?_ | refine pop_callv rfl rfl rfl rfl rfl (roundingRound_c x y c d (mode % 7) (by omega) (by omega) (by omega) (by omega)) rfl rfl rfl ?_ | refine pop_callv rfl rfl rfl rfl rfl (ratioCompare_c a b a' b' (by omega) (by omega) (by omega) (by omega)) rfl rfl rfl ?_ | (refine pop_callgv rfl rfl rfl rfl rfl rfl (fun _ => ratioCompare_c x y x' y' (by omega) (by omega) (by omega) (by omega)) ?_ rfl rfl rfl ?_; (exact fun h => ⟨h, h, trivial⟩)) | (refine pop_callgv rfl rfl rfl rfl rfl rfl (fun _ => sane_c) ?_ rfl rfl rfl ?_; (first | exact fun _ => trivial | exact fun h => ⟨h, trivial⟩)) | (refine pop_guard2 rfl rfl rfl rfl rfl ?_ ?_; (exact fun h => ⟨h, h, trivial⟩)))) | refine pnil ?_ | refine kround_exit ?_ | refine kround_ret ?_ | refine kround_next ?_ | refine kseq_normal ?_ | refine pseq ?_ | refine pregion ?_ | refine pret ?_ | refine kseq_ret ?_ | refine pskip ?_ | refine pblock ?_ | refine pexit ?_ | refine kseq_exit ?_ | refine kblock_hit rfl ?_ | refine kblock_miss rfl ?_ | refine kblock_ret ?_ | refine kblock_normal ?_ | refine kloop_ret ?_ | refine kloop_exit ?_ | refine kcut_ret ?_ | refine kcut_exit ?_ | refine pcond_t rfl ?_ | refine pcond_f rfl ?_)
    refine kretv rfl ⟨trivial, trivial⟩ rfl (eqB ?_)
    rw [hag]
    by_cases hp : 0 < cmpR a b a' b'
    · simp [hp]
    · have := hmn hp; simp [hp, this]
theorem rmono_walk (v : Value) (l : List Int) (mode : Int) (w : World) (h : IntsAt w v l) :
    Calls G.P 7 #[v, .int .i64 mode] w fun e w' => e = .returned (.bool true) ∧ Ext w w' := by
  have hl : l.length ≤ 9223372036854775807 := by obtain ⟨_, _, _, _, h, _⟩ := h; exact h
  exact law_of (rmono_c l.length _ mode hl) ⟨h.rel _, rfl, trivial⟩
end Go.Proofs.Ytppjjhnaahgmhaa
