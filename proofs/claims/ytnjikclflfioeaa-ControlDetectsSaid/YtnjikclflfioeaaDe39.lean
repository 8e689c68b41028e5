/- payrolllaw39: ControlDetects. -/
import Derived.Test.YtnjikclflfioeaaCt2
import Derived.Test.YtnjikclflfioeaaKs1
set_option linter.unusedSimpArgs false
set_option linter.unusedVariables false
set_option maxRecDepth 100000
namespace Go.Proofs.Ytnjikclflfioeaa
theorem sumN_upd (f g : Nat → Int) (k : Nat) : ∀ n, k < n → (∀ i, i < n → i ≠ k → g i = f i) → sumN n g = sumN n f + (g k - f k)
  | 0, h, _ => by omega
  | n + 1, h, hg => by
    rw [sumN, sumN]
    by_cases e : k = n
    · subst e
      rw [sumN_congr (g := f) fun i hi => hg i (by omega) (by omega)]; omega
    · rw [sumN_upd f g k n (by omega) (fun i hi => hg i (by omega)), hg n (by omega) (Ne.symm e)]; omega
theorem ofS_ok {n : Nat} {g : Nat → Pay} (h1 : n ≤ 4096) (h2 : ∀ i, i < n → payOk (g i) = true) : ofS n g = (((n : Int), sumN n (fun i => (g i).2), sumN n (fun i => (g i).1)), 0) := by
  rw [ofS, if_neg (by omega), if_pos (paysOk_iff.2 h2)]
theorem updR_o {α : Type} {c : α → List PV} {g : Nat → α} {j : Nat} {y : α} {L : List PV} (hL : L = c y) (a b : Nat) : updR (tF c g) j L a b = tF c (updA g j y) a b := by
  subst hL
  unfold updR updA tF
  by_cases e : a = j
  · subst e; simp
  · have : Nat.beq a j = false := by cases hb2 : Nat.beq a j; rfl; exact absurd (Nat.eq_of_beq_eq_true hb2) e
    simp only [this, if_neg e, cond_false]
theorem argEqN {mem : List Row} {L : List Nat} {p : PV} {n n' sz : Nat} {f : Nat → Nat → PV} (h : n = n') (ha : ArgOk mem L p (.vsl n sz f)) : ArgOk mem L p (.vsl n' sz f) := h ▸ ha
set_option maxHeartbeats 4000000 in
theorem detects_c (n : Nat) (g : Nat → Int) (at0 how by0 : Int) (hn : n ≤ 9223372036854775807) : PureC G.P 4 [.vsl n 1 (tI g), vi at0, vi how, vi by0] (fun r => r = vb true) := by
  have haw := awake39_c ksorted
  refine pure_of (G := G.toPg) (fn := Try.f4) Try.func4 rfl rfl rfl ?_; intro Γ hk
  repeat' (first | refine xo 4000 rfl ?_ ?_ | refine xw 4000 rfl ?_ ?_ | refine xk 4000 rfl ?_ ?_ | exact trivial | ((with_reducible (show AllP (_ :: _))); refine And.intro ?_ ?_) | refine xs rfl ?_ ?_ | refine xs_done ?_ | refine pcond_t rfl ?_ | refine pcond_f rfl ?_ | refine kround_exit ?_ | refine kround_ret ?_ | refine kround_next ?_ | refine kloop_ret ?_ | refine kloop_exit ?_ | refine kcut_ret ?_ | refine kcut_exit ?_ | refine xo0 4000 rfl ?_ ?_ | refine xw0 4000 rfl ?_ ?_ | exact qq | fail)
  refine pop_rowsc [] rfl rfl rfl rfl rfl rfl .nil (dnew_c n g) (by exact ⟨PEq.refl _, trivial⟩) ?_
  rintro r rows ⟨rfl, rfl⟩
  refine ⟨_, _, rfl, ⟨tape_cl _ _ _, trivial⟩, rfl, ?_⟩
  repeat' (first | refine xo 4000 rfl ?_ ?_ | refine xw 4000 rfl ?_ ?_ | refine xk 4000 rfl ?_ ?_ | exact trivial | ((with_reducible (show AllP (_ :: _))); refine And.intro ?_ ?_) | refine xs rfl ?_ ?_ | refine xs_done ?_ | refine pcond_t rfl ?_ | refine pcond_f rfl ?_ | refine kround_exit ?_ | refine kround_ret ?_ | refine kround_next ?_ | refine kloop_ret ?_ | refine kloop_exit ?_ | refine kcut_ret ?_ | refine kcut_exit ?_ | refine xo0 4000 rfl ?_ ?_ | refine xw0 4000 rfl ?_ ?_ | exact qq | fail)
  refine pop_dek (G := G) rfl rfl rfl rfl rfl rfl rfl rfl (fun _ => rfl) (dpays_t 6 (by omega)) hn (by omega) (by omega) rfl rfl ?_; rintro at_ _ b1 b2 ⟨l, rfl, hl⟩
  have hl0 : l.length ≤ 9223372036854775807 := by have := hl.1; omega
  obtain ⟨hl6, _⟩ := hl
  have hok : ∀ i, i < l.length → payOk (lF dP l i) = true := fun i hi => PLs.at ⟨hl6, by assumption⟩ hi
  have q1 := of_c l.length (lF dP l) hl0
  have q2 := fun c => chk_c l.length (lF dP l) c hl0
  have eX := ofS_ok (by omega) hok
  obtain ⟨X, hX⟩ : ∃ X, X = ofS l.length (lF dP l) := ⟨_, rfl⟩
  rw [← hX] at q1 q2 eX
  have q3 := q2 X.1
  have e3 : chkS X X.1 = 0 := by rw [chkS, if_pos (by rw [eX]), if_pos rfl]
  rw [e3] at q3
  have eX2 : X.2 = 0 := by rw [eX]
  repeat' (first | refine xo 4000 rfl ?_ ?_ | refine xw 4000 rfl ?_ ?_ | refine xk 4000 rfl ?_ ?_ | exact trivial | ((with_reducible (show AllP (_ :: _))); refine And.intro ?_ ?_) | refine xs rfl ?_ ?_ | refine xs_done ?_ | refine pop_callv rfl rfl rfl rfl rfl (q1) rfl rfl rfl ?_ | refine xs_call rfl rfl rfl rfl rfl rfl (q1) rfl rfl rfl ?_ | refine xs_one (ch := []) rfl rfl rfl (pst_callv rfl rfl rfl rfl rfl (q1) rfl rfl rfl ?_) | refine pop_callgv rfl rfl rfl rfl rfl rfl (fun _ => q1) (by first | exact fun h => ⟨h, trivial⟩ | exact fun _ => trivial | exact fun h => ⟨h, h, trivial⟩) rfl rfl rfl ?_ | refine xs_one (ch := []) rfl rfl rfl (pst_callgv rfl rfl rfl rfl rfl rfl (fun _ => q1) (by first | exact fun h => ⟨h, trivial⟩ | exact fun _ => trivial | exact fun h => ⟨h, h, trivial⟩) rfl rfl rfl ?_) | refine pop_callv rfl rfl rfl rfl rfl (q3) rfl rfl rfl ?_ | refine xs_call rfl rfl rfl rfl rfl rfl (q3) rfl rfl rfl ?_ | refine xs_one (ch := []) rfl rfl rfl (pst_callv rfl rfl rfl rfl rfl (q3) rfl rfl rfl ?_) | refine pop_callgv rfl rfl rfl rfl rfl rfl (fun _ => q3) (by first | exact fun h => ⟨h, trivial⟩ | exact fun _ => trivial | exact fun h => ⟨h, h, trivial⟩) rfl rfl rfl ?_ | refine xs_one (ch := []) rfl rfl rfl (pst_callgv rfl rfl rfl rfl rfl rfl (fun _ => q3) (by first | exact fun h => ⟨h, trivial⟩ | exact fun _ => trivial | exact fun h => ⟨h, h, trivial⟩) rfl rfl rfl ?_) | refine pcond_t rfl ?_ | refine pcond_f rfl ?_ | refine kround_exit ?_ | refine kround_ret ?_ | refine kround_next ?_ | refine kloop_ret ?_ | refine kloop_exit ?_ | refine kcut_ret ?_ | refine kcut_exit ?_ | refine xo0 4000 rfl ?_ ?_ | refine xw0 4000 rfl ?_ ?_ | exact qq | fail)
  rw [eX2]
  repeat' (first | refine xo 4000 rfl ?_ ?_ | refine xw 4000 rfl ?_ ?_ | refine xk 4000 rfl ?_ ?_ | exact trivial | ((with_reducible (show AllP (_ :: _))); refine And.intro ?_ ?_) | refine xs rfl ?_ ?_ | refine xs_done ?_ | refine pcond_t rfl ?_ | refine pcond_f rfl ?_ | refine kround_exit ?_ | refine kround_ret ?_ | refine kround_next ?_ | refine kloop_ret ?_ | refine kloop_exit ?_ | refine kcut_ret ?_ | refine kcut_exit ?_ | refine xo0 4000 rfl ?_ ?_ | refine xw0 4000 rfl ?_ ?_ | exact qq | fail)
  have e0 := Int.emod_nonneg by0 (show (1000 : Int) ≠ 0 by omega)
  have e1 := Int.emod_lt_of_pos by0 (show (0 : Int) < 1000 by omega)
  have e2 := Int.emod_nonneg how (show (3 : Int) ≠ 0 by omega)
  have e4 := Int.emod_lt_of_pos how (show (0 : Int) < 3 by omega)
  have m1 := dmod_c by0 1000 (by omega) (by omega)
  have m2 := dmod_c how 3 (by omega) (by omega)
  generalize by0 % 1000 = bb at *
  generalize how % 3 = hh at *
  refine pcond rfl ?_ ?_ <;> intro hc <;> simp at hc
  · repeat' (first | refine xo 4000 rfl ?_ ?_ | refine xw 4000 rfl ?_ ?_ | refine xk 4000 rfl ?_ ?_ | exact trivial | ((with_reducible (show AllP (_ :: _))); refine And.intro ?_ ?_) | refine xs rfl ?_ ?_ | refine xs_done ?_ | refine pop_callv rfl rfl rfl rfl rfl (haw) rfl rfl rfl ?_ | refine xs_call rfl rfl rfl rfl rfl rfl (haw) rfl rfl rfl ?_ | refine xs_one (ch := []) rfl rfl rfl (pst_callv rfl rfl rfl rfl rfl (haw) rfl rfl rfl ?_) | refine pop_callgv rfl rfl rfl rfl rfl rfl (fun _ => haw) (by first | exact fun h => ⟨h, trivial⟩ | exact fun _ => trivial | exact fun h => ⟨h, h, trivial⟩) rfl rfl rfl ?_ | refine xs_one (ch := []) rfl rfl rfl (pst_callgv rfl rfl rfl rfl rfl rfl (fun _ => haw) (by first | exact fun h => ⟨h, trivial⟩ | exact fun _ => trivial | exact fun h => ⟨h, h, trivial⟩) rfl rfl rfl ?_) | refine pcond_t rfl ?_ | refine pcond_f rfl ?_ | refine kround_exit ?_ | refine kround_ret ?_ | refine kround_next ?_ | refine kloop_ret ?_ | refine kloop_exit ?_ | refine kcut_ret ?_ | refine kcut_exit ?_ | refine xo0 4000 rfl ?_ ?_ | refine xw0 4000 rfl ?_ ?_ | exact qq | fail)
    refine xdone ?_
    exact kretv rfl ⟨trivial, trivial⟩ rfl rfl
  · have hlp : 1 ≤ l.length := by have := List.length_pos_iff.2 hc; omega
    have f0 := Int.emod_nonneg at0 (show (l.length : Int) ≠ 0 by omega)
    have f1 := Int.emod_lt_of_pos at0 (show (0 : Int) < l.length by omega)
    have m3 := dmod_c at0 l.length (by omega) (by omega)
    generalize at0 % (l.length : Int) = kk at *
    have hw1 : IntKind.i64.wrap (1 + bb) = 1 + bb := w64 (by omega) (by omega)
    repeat' (first | refine xo 4000 rfl ?_ ?_ | refine xw 4000 rfl ?_ ?_ | refine xk 4000 rfl ?_ ?_ | exact trivial | ((with_reducible (show AllP (_ :: _))); refine And.intro ?_ ?_) | refine xs rfl ?_ ?_ | refine xs_done ?_ | refine pop_callv rfl rfl rfl rfl rfl (m1) rfl rfl rfl ?_ | refine xs_call rfl rfl rfl rfl rfl rfl (m1) rfl rfl rfl ?_ | refine xs_one (ch := []) rfl rfl rfl (pst_callv rfl rfl rfl rfl rfl (m1) rfl rfl rfl ?_) | refine pop_callgv rfl rfl rfl rfl rfl rfl (fun _ => m1) (by first | exact fun h => ⟨h, trivial⟩ | exact fun _ => trivial | exact fun h => ⟨h, h, trivial⟩) rfl rfl rfl ?_ | refine xs_one (ch := []) rfl rfl rfl (pst_callgv rfl rfl rfl rfl rfl rfl (fun _ => m1) (by first | exact fun h => ⟨h, trivial⟩ | exact fun _ => trivial | exact fun h => ⟨h, h, trivial⟩) rfl rfl rfl ?_) | refine pop_callv rfl rfl rfl rfl rfl (m2) rfl rfl rfl ?_ | refine xs_call rfl rfl rfl rfl rfl rfl (m2) rfl rfl rfl ?_ | refine xs_one (ch := []) rfl rfl rfl (pst_callv rfl rfl rfl rfl rfl (m2) rfl rfl rfl ?_) | refine pop_callgv rfl rfl rfl rfl rfl rfl (fun _ => m2) (by first | exact fun h => ⟨h, trivial⟩ | exact fun _ => trivial | exact fun h => ⟨h, h, trivial⟩) rfl rfl rfl ?_ | refine xs_one (ch := []) rfl rfl rfl (pst_callgv rfl rfl rfl rfl rfl rfl (fun _ => m2) (by first | exact fun h => ⟨h, trivial⟩ | exact fun _ => trivial | exact fun h => ⟨h, h, trivial⟩) rfl rfl rfl ?_) | refine pop_callv rfl rfl rfl rfl rfl (m3) rfl rfl rfl ?_ | refine xs_call rfl rfl rfl rfl rfl rfl (m3) rfl rfl rfl ?_ | refine xs_one (ch := []) rfl rfl rfl (pst_callv rfl rfl rfl rfl rfl (m3) rfl rfl rfl ?_) | refine pop_callgv rfl rfl rfl rfl rfl rfl (fun _ => m3) (by first | exact fun h => ⟨h, trivial⟩ | exact fun _ => trivial | exact fun h => ⟨h, h, trivial⟩) rfl rfl rfl ?_ | refine xs_one (ch := []) rfl rfl rfl (pst_callgv rfl rfl rfl rfl rfl rfl (fun _ => m3) (by first | exact fun h => ⟨h, trivial⟩ | exact fun _ => trivial | exact fun h => ⟨h, h, trivial⟩) rfl rfl rfl ?_) | refine pcond_t rfl ?_ | refine pcond_f rfl ?_ | refine kround_exit ?_ | refine kround_ret ?_ | refine kround_next ?_ | refine kloop_ret ?_ | refine kloop_exit ?_ | refine kcut_ret ?_ | refine kcut_exit ?_ | refine xo0 4000 rfl ?_ ?_ | refine xw0 4000 rfl ?_ ?_ | exact qq | fail)
    · exact ⟨trivial, (by rw [hk]; exact Nat.zero_le _), Nat.le_refl _, (show (0 + l.length) * 16 ≤ 140737488355328 from by omega), (show 0 + l.length ≤ 9223372036854775807 from by omega)⟩
    rw [hw1, Nat.zero_add l.length]
    refine pcan (st' := ⟨[(10, .ptr 0 0 0), (12, vi kk), (13, .lsl 1 0 l.length), (14, vi (1 + bb)), (46, vi hh), (64, vb (hh == 0))], [rC X.1, oRow cP 2 l.length (lF dP l)]⟩) (can_rowsv [1, 3] (k0_sel hk rfl) rfl (.cons rfl rqq (.cons rfl (o_eq cP_cl (Nat.le_refl _) (fun a ha b hb => by
      show appF 0 _ _ a b = _
      rw [appF_ge _ _ (Nat.zero_le _)]; rfl)) .nil)) tmq) ?_
    obtain ⟨k, rfl⟩ : ∃ k : Nat, kk = k := ⟨kk.toNat, by omega⟩
    have hkl : k < l.length := by omega
    have hpk := payOk_iff.1 (hok k hkl)
    -- what Check says of a list g' of k' payments whose totals are others
    have fin : ∀ (k' : Nat) (g' : Nat → Pay), k' ≤ 6 → (∀ i, i < k' → payOk (g' i) = true) → ((k' : Int), sumN k' (fun i => (g' i).2), sumN k' (fun i => (g' i).1)) ≠ X.1 → PureC G.P 17 [vPs k' g', vC X.1] (fun r => r = vi 17) := fun k' g' h1 h2 h3 => by
      have := chk_c k' g' X.1 (by omega)
      rw [ofS_ok (by omega) h2, chkS, if_pos rfl, if_neg h3] at this
      exact this
    have eX1 : X.1 = ((l.length : Int), sumN l.length (fun i => (lF dP l i).2), sumN l.length (fun i => (lF dP l i).1)) := by rw [eX]
    refine pcond rfl ?_ ?_ <;> intro hc1 <;> simp at hc1
    · subst hc1
      have hw3 : IntKind.i64.wrap ((k : Int) + 1) = (k : Int) + 1 := w64 (by omega) (by omega)
      repeat' (first | ((with_reducible (show POps _ _ _ _ (_ :: _) _ _)); (first | refine pop_read rfl rfl rfl rfl trivial ?_ | refine pop_guard rfl rfl rfl rfl rfl qgd ?_ | refine pop_new rfl rfl rfl rfl trivial ?_ | refine pop_store rfl rfl rfl Nat.zero_lt_one ?_ | refine pop_read rfl rfl rfl rfl qrd ?_ | refine pop_read2 rfl rfl rfl rfl trivial ?_ | refine pop_store rfl rfl rfl qst ?_ | fail)) | refine pnil ?_ | refine kround_exit ?_ | refine kround_ret ?_ | refine kround_next ?_ | refine kseq_normal ?_ | refine pseq ?_ | refine pregion ?_ | refine pret ?_ | refine kseq_ret ?_ | refine pskip ?_ | refine pblock ?_ | refine pexit ?_ | refine kseq_exit ?_ | refine kblock_hit rfl ?_ | refine kblock_miss rfl ?_ | refine kblock_ret ?_ | refine kblock_normal ?_ | refine kloop_ret ?_ | refine kloop_exit ?_ | refine kcut_ret ?_ | refine kcut_exit ?_ | refine pcond_t rfl ?_ | refine pcond_f rfl ?_ | (with_reducible (show POps _ _ _ _ _ _ _); simp only [List.append_eq, List.cons_append, List.nil_append]))
      (refine any_start [0] 9 rfl ?_); (first | refine any_take 0 rfl (by kernel_rfl) (by kernel_rfl) (by kernel_rfl) rfl rfl rfl rfl rfl qtk ?_ | refine any_take2 0 rfl (by kernel_rfl) (by kernel_rfl) (by kernel_rfl) rfl rfl rfl rfl trivial ?_ | (refine any_take 0 rfl (by kernel_rfl) (by kernel_rfl) (by kernel_rfl) rfl rfl rfl rfl rfl ?_ ?_; rotate_left)); (first | refine any_take 1 rfl (by kernel_rfl) (by kernel_rfl) (by kernel_rfl) rfl rfl rfl rfl rfl qtk ?_ | refine any_take2 1 rfl (by kernel_rfl) (by kernel_rfl) (by kernel_rfl) rfl rfl rfl rfl trivial ?_ | (refine any_take 1 rfl (by kernel_rfl) (by kernel_rfl) (by kernel_rfl) rfl rfl rfl rfl rfl ?_ ?_; rotate_left)); (first | refine any_take 3 rfl (by kernel_rfl) (by kernel_rfl) (by kernel_rfl) rfl rfl rfl rfl rfl qtk ?_ | refine any_take2 3 rfl (by kernel_rfl) (by kernel_rfl) (by kernel_rfl) rfl rfl rfl rfl trivial ?_ | (refine any_take 3 rfl (by kernel_rfl) (by kernel_rfl) (by kernel_rfl) rfl rfl rfl rfl rfl ?_ ?_; rotate_left)); (first | refine any_take 4 rfl (by kernel_rfl) (by kernel_rfl) (by kernel_rfl) rfl rfl rfl rfl rfl qtk ?_ | refine any_take2 4 rfl (by kernel_rfl) (by kernel_rfl) (by kernel_rfl) rfl rfl rfl rfl trivial ?_ | (refine any_take 4 rfl (by kernel_rfl) (by kernel_rfl) (by kernel_rfl) rfl rfl rfl rfl rfl ?_ ?_; rotate_left)); (first | refine any_take 5 rfl (by kernel_rfl) (by kernel_rfl) (by kernel_rfl) rfl rfl rfl rfl rfl qtk ?_ | refine any_take2 5 rfl (by kernel_rfl) (by kernel_rfl) (by kernel_rfl) rfl rfl rfl rfl trivial ?_ | (refine any_take 5 rfl (by kernel_rfl) (by kernel_rfl) (by kernel_rfl) rfl rfl rfl rfl rfl ?_ ?_; rotate_left)); (refine any_many [2, 6] (by kernel_rfl) (by decide) rfl ⟨?_, ?_, trivial⟩ <;> first | ((refine any_i 2 (ch := []) rfl rfl (pst_read2 rfl rfl rfl rfl (by exact ⟨trivial, trivial, by decide, by omega, by omega⟩) ?_)); (refine any_one 6 rfl (by kernel_rfl) (ch := []) rfl rfl (pst_read2 rfl rfl rfl rfl (by exact ⟨trivial, trivial, (show (0 : Int) ≤ IntKind.i64.wrap _ from by omega), (show IntKind.i64.wrap _ ≤ _ from by omega), by omega⟩) ?_)); (refine any_one 7 rfl (by kernel_rfl) (ch := [_]) rfl rfl ( pst_app rfl rfl rfl rfl (by exact ⟨(show (_ : Nat) ≤ l.length from by omega), (by rw [hk]; exact Nat.zero_le _), (show (_ : Nat) ≤ l.length from by omega), (show (_ : Nat) * 16 ≤ 140737488355328 from by omega), (show (_ : Nat) ≤ 9223372036854775807 from by omega)⟩) rfl ?_)); (first | refine any_take 8 rfl (by kernel_rfl) (by kernel_rfl) (by kernel_rfl) rfl rfl rfl rfl rfl qtk ?_ | refine any_take2 8 rfl (by kernel_rfl) (by kernel_rfl) (by kernel_rfl) rfl rfl rfl rfl trivial ?_ | (refine any_take 8 rfl (by kernel_rfl) (by kernel_rfl) (by kernel_rfl) rfl rfl rfl rfl rfl ?_ ?_; rotate_left)); (refine any_done (by kernel_rfl) ?_)) | ((refine any_i 6 (ch := []) rfl rfl (pst_read2 rfl rfl rfl rfl (by exact ⟨trivial, trivial, (show (0 : Int) ≤ IntKind.i64.wrap _ from by omega), (show IntKind.i64.wrap _ ≤ _ from by omega), by omega⟩) ?_)); (refine any_one 2 rfl (by kernel_rfl) (ch := []) rfl rfl (pst_read2 rfl rfl rfl rfl (by exact ⟨trivial, trivial, by decide, by omega, by omega⟩) ?_)); (refine any_one 7 rfl (by kernel_rfl) (ch := [_]) rfl rfl ( pst_app rfl rfl rfl rfl (by exact ⟨(show (_ : Nat) ≤ l.length from by omega), (by rw [hk]; exact Nat.zero_le _), (show (_ : Nat) ≤ l.length from by omega), (show (_ : Nat) * 16 ≤ 140737488355328 from by omega), (show (_ : Nat) ≤ 9223372036854775807 from by omega)⟩) rfl ?_)); (first | refine any_take 8 rfl (by kernel_rfl) (by kernel_rfl) (by kernel_rfl) rfl rfl rfl rfl rfl qtk ?_ | refine any_take2 8 rfl (by kernel_rfl) (by kernel_rfl) (by kernel_rfl) rfl rfl rfl rfl trivial ?_ | (refine any_take 8 rfl (by kernel_rfl) (by kernel_rfl) (by kernel_rfl) rfl rfl rfl rfl rfl ?_ ?_; rotate_left)); (refine any_done (by kernel_rfl) ?_)))
      all_goals
        have hk1 : ((k : Int) - ((0 : Nat) : Int)).toNat = k := by omega
        have hk2 : ((l.length : Int) - IntKind.i64.wrap ((k : Int) + 1)).toNat = l.length - 1 - k := by omega
        have hk3 : 0 + (IntKind.i64.wrap ((k : Int) + 1)).toNat = k + 1 := by omega
        obtain ⟨g', hg'⟩ : ∃ g' : Nat → Pay, g' = fun i => if i < k then lF dP l i else lF dP l (i + 1) := ⟨_, rfl⟩
        have hf := fin (l.length - 1) g' (by omega) (fun i hi => by
          subst hg'
          show payOk (if i < k then lF dP l i else lF dP l (i + 1)) = true
          split <;> exact hok _ (by omega)) (fun h => by rw [eX1] at h; have := congrArg Prod.fst h; simp at this; omega)
        repeat' (first | refine xo 4000 rfl ?_ ?_ | refine xw 4000 rfl ?_ ?_ | refine xk 4000 rfl ?_ ?_ | exact trivial | ((with_reducible (show AllP (_ :: _))); refine And.intro ?_ ?_) | refine xs rfl ?_ ?_ | refine xs_done ?_ | refine pcond_t rfl ?_ | refine pcond_f rfl ?_ | refine kround_exit ?_ | refine kround_ret ?_ | refine kround_next ?_ | refine kloop_ret ?_ | refine kloop_exit ?_ | refine kcut_ret ?_ | refine kcut_exit ?_ | refine xo0 4000 rfl ?_ ?_ | refine xw0 4000 rfl ?_ ?_ | exact qq | fail)
        refine pop_callc [2] rfl rfl rfl rfl rfl rfl (by intro l hl; rw [hk]; exact Nat.zero_le _) hf ⟨argEqN (show _ + _ = l.length - 1 by rw [hk1, hk2]; omega) (argLsl (r := ⟨.own, false, _, 2, _⟩) (f := tF cP g') rfl trivial (List.Mem.head _) (Nat.le_of_eq (Nat.zero_add _)) (fun a ha b hb => ?_)), argCl (clA ⟨trivial, trivial, trivial, trivial⟩), trivial⟩ ?_
        · refine ⟨?_, tF_cl cP_cl g' a b⟩
          show appF ((k : Int) - ((0 : Nat) : Int)).toNat (fun x => tF cP (lF dP l) (0 + ((0 : Nat) : Int).toNat + x)) (fun x => tF cP (lF dP l) (0 + (IntKind.i64.wrap ((k : Int) + 1)).toNat + x)) (0 + a) b = nthP (cP (g' a)) b
          rw [Nat.zero_add a, hk1, hk3, hg']
          by_cases e : a < k
          · rw [appF_lt _ _ e]
            show nthP (cP (lF dP l (0 + 0 + a))) b = nthP (cP (if a < k then lF dP l a else lF dP l (a + 1))) b
            rw [if_pos e, show 0 + 0 + a = a by omega]
          · rw [appF_ge _ _ (by omega)]
            show nthP (cP (lF dP l (k + 1 + (a - k)))) b = nthP (cP (if a < k then lF dP l a else lF dP l (a + 1))) b
            rw [if_neg e, show k + 1 + (a - k) = a + 1 by omega]
        rintro _ rfl
        repeat' (first | refine xo 4000 rfl ?_ ?_ | refine xw 4000 rfl ?_ ?_ | refine xk 4000 rfl ?_ ?_ | exact trivial | ((with_reducible (show AllP (_ :: _))); refine And.intro ?_ ?_) | refine xs rfl ?_ ?_ | refine xs_done ?_ | refine pop_callv rfl rfl rfl rfl rfl (haw) rfl rfl rfl ?_ | refine xs_call rfl rfl rfl rfl rfl rfl (haw) rfl rfl rfl ?_ | refine xs_one (ch := []) rfl rfl rfl (pst_callv rfl rfl rfl rfl rfl (haw) rfl rfl rfl ?_) | refine pop_callgv rfl rfl rfl rfl rfl rfl (fun _ => haw) (by first | exact fun h => ⟨h, trivial⟩ | exact fun _ => trivial | exact fun h => ⟨h, h, trivial⟩) rfl rfl rfl ?_ | refine xs_one (ch := []) rfl rfl rfl (pst_callgv rfl rfl rfl rfl rfl rfl (fun _ => haw) (by first | exact fun h => ⟨h, trivial⟩ | exact fun _ => trivial | exact fun h => ⟨h, h, trivial⟩) rfl rfl rfl ?_) | refine pcond_t rfl ?_ | refine pcond_f rfl ?_ | refine kround_exit ?_ | refine kround_ret ?_ | refine kround_next ?_ | refine kloop_ret ?_ | refine kloop_exit ?_ | refine kcut_ret ?_ | refine kcut_exit ?_ | refine xo0 4000 rfl ?_ ?_ | refine xw0 4000 rfl ?_ ?_ | exact qq | fail)
        refine xdone ?_
        exact kretv rfl ⟨trivial, trivial⟩ rfl rfl
    · repeat' (first | refine xo 4000 rfl ?_ ?_ | refine xw 4000 rfl ?_ ?_ | refine xk 4000 rfl ?_ ?_ | exact trivial | ((with_reducible (show AllP (_ :: _))); refine And.intro ?_ ?_) | refine xs rfl ?_ ?_ | refine xs_done ?_ | refine pcond_t rfl ?_ | refine pcond_f rfl ?_ | refine kround_exit ?_ | refine kround_ret ?_ | refine kround_next ?_ | refine kloop_ret ?_ | refine kloop_exit ?_ | refine kcut_ret ?_ | refine kcut_exit ?_ | refine xo0 4000 rfl ?_ ?_ | refine xw0 4000 rfl ?_ ?_ | exact qq | fail)
      refine pcond rfl ?_ ?_ <;> intro hc2 <;> simp at hc2
      · subst hc2
        have ek : 0 + (k : Int).toNat = k := by omega
        have hw2 : IntKind.i64.wrap ((lF dP l k).2 + (1 + bb)) = (lF dP l k).2 + (1 + bb) := w64 (by omega) (by omega)
        repeat' (first | refine xo 4000 rfl ?_ ?_ | refine xw 4000 rfl ?_ ?_ | refine xk 4000 rfl ?_ ?_ | exact trivial | ((with_reducible (show AllP (_ :: _))); refine And.intro ?_ ?_) | refine xs rfl ?_ ?_ | refine xs_done ?_ | refine pcond_t rfl ?_ | refine pcond_f rfl ?_ | refine kround_exit ?_ | refine kround_ret ?_ | refine kround_next ?_ | refine kloop_ret ?_ | refine kloop_exit ?_ | refine kcut_ret ?_ | refine kcut_exit ?_ | refine xo0 4000 rfl ?_ ?_ | refine xw0 4000 rfl ?_ ?_ | exact qq | fail)
        rw [ek, hw2]
        refine pcut (fun st => ∃ m : Int, m ≠ 0 ∧ 1 ≤ (lF dP l k).2 + m ∧ (lF dP l k).2 + m ≤ 1000000000000 ∧ st = ⟨[(10, .ptr 0 0 0), (12, vi k), (13, .lsl 1 0 l.length), (14, vi m)], [rC X.1, oRow cP 2 l.length (lF dP l)]⟩) ?_ ?_
        · refine pcond rfl ?_ ?_ <;> intro hc3 <;> simp at hc3
          · repeat' (first | refine xo 4000 rfl ?_ ?_ | refine xw 4000 rfl ?_ ?_ | refine xk 4000 rfl ?_ ?_ | exact trivial | ((with_reducible (show AllP (_ :: _))); refine And.intro ?_ ?_) | refine xs rfl ?_ ?_ | refine xs_done ?_ | refine pcond_t rfl ?_ | refine pcond_f rfl ?_ | refine kround_exit ?_ | refine kround_ret ?_ | refine kround_next ?_ | refine kloop_ret ?_ | refine kloop_exit ?_ | refine kcut_ret ?_ | refine kcut_exit ?_ | refine xo0 4000 rfl ?_ ?_ | refine xw0 4000 rfl ?_ ?_ | exact qq | fail)
            exact kcut (st' := ⟨[(10, .ptr 0 0 0), (12, vi k), (13, .lsl 1 0 l.length), (14, vi (-1))], [rC X.1, oRow cP 2 l.length (lF dP l)]⟩) (can_rowsv [0,1] (k0_sel hk rfl) rfl (by (repeat (refine SelV.cons rfl rqq ?_)); exact SelV.nil) tmq) ⟨-1, by omega, by omega, by omega, rfl⟩
          · repeat' (first | refine xo 4000 rfl ?_ ?_ | refine xw 4000 rfl ?_ ?_ | refine xk 4000 rfl ?_ ?_ | exact trivial | ((with_reducible (show AllP (_ :: _))); refine And.intro ?_ ?_) | refine xs rfl ?_ ?_ | refine xs_done ?_ | refine pcond_t rfl ?_ | refine pcond_f rfl ?_ | refine kround_exit ?_ | refine kround_ret ?_ | refine kround_next ?_ | refine kloop_ret ?_ | refine kloop_exit ?_ | refine kcut_ret ?_ | refine kcut_exit ?_ | refine xo0 4000 rfl ?_ ?_ | refine xw0 4000 rfl ?_ ?_ | exact qq | fail)
            exact kcut (st' := ⟨[(10, .ptr 0 0 0), (12, vi k), (13, .lsl 1 0 l.length), (14, vi (1 + bb))], [rC X.1, oRow cP 2 l.length (lF dP l)]⟩) (can_rowsv [0,1] (k0_sel hk rfl) rfl (by (repeat (refine SelV.cons rfl rqq ?_)); exact SelV.nil) tmq) ⟨1 + bb, by omega, by omega, by omega, rfl⟩
        · rintro _ ⟨m, m0, m1, m2, rfl⟩
          have hw4 : IntKind.i64.wrap ((lF dP l k).2 + m) = (lF dP l k).2 + m := w64 (by omega) (by omega)
          repeat' (first | refine xo 4000 rfl ?_ ?_ | refine xw 4000 rfl ?_ ?_ | refine xk 4000 rfl ?_ ?_ | exact trivial | ((with_reducible (show AllP (_ :: _))); refine And.intro ?_ ?_) | refine xs rfl ?_ ?_ | refine xs_done ?_ | refine pcond_t rfl ?_ | refine pcond_f rfl ?_ | refine kround_exit ?_ | refine kround_ret ?_ | refine kround_next ?_ | refine kloop_ret ?_ | refine kloop_exit ?_ | refine kcut_ret ?_ | refine kcut_exit ?_ | refine xo0 4000 rfl ?_ ?_ | refine xw0 4000 rfl ?_ ?_ | exact qq | fail)
          rw [ek, hw4]
          refine pcond rfl ?_ ?_ <;> intro hc3 <;> simp at hc3
          · omega
          · repeat' (first | refine xo 4000 rfl ?_ ?_ | refine xw 4000 rfl ?_ ?_ | refine xk 4000 rfl ?_ ?_ | exact trivial | ((with_reducible (show AllP (_ :: _))); refine And.intro ?_ ?_) | refine xs rfl ?_ ?_ | refine xs_done ?_ | refine pcond_t rfl ?_ | refine pcond_f rfl ?_ | refine kround_exit ?_ | refine kround_ret ?_ | refine kround_next ?_ | refine kloop_ret ?_ | refine kloop_exit ?_ | refine kcut_ret ?_ | refine kcut_exit ?_ | refine xo0 4000 rfl ?_ ?_ | refine xw0 4000 rfl ?_ ?_ | exact qq | fail)
            obtain ⟨g', hg'⟩ : ∃ g' : Nat → Pay, g' = updA (lF dP l) k ((lF dP l k).1, (lF dP l k).2 + m) := ⟨_, rfl⟩
            have g1 : g' k = ((lF dP l k).1, (lF dP l k).2 + m) := by rw [hg']; exact if_pos rfl
            have g2 : ∀ i, i ≠ k → g' i = lF dP l i := fun i hi => by rw [hg']; exact if_neg hi
            have hf := fin l.length g' (by omega) (fun i hi => by
              by_cases e : i = k
              · subst e; rw [g1, payOk_iff]; simp only; omega
              · rw [g2 i e]; exact hok i hi) (fun h => by
              rw [eX1] at h
              have h1 : sumN l.length (fun i => (g' i).2) = sumN l.length (fun i => (lF dP l i).2) := congrArg (fun x : Cto => x.2.1) h
              rw [sumN_upd (fun i => (lF dP l i).2) (fun i => (g' i).2) k l.length hkl (fun i _ hi => by show (g' i).2 = _; rw [g2 i hi])] at h1
              simp only [g1] at h1
              omega)
            refine pop_callc [1] rfl rfl rfl rfl rfl rfl (by intro l hl; rw [hk]; exact Nat.zero_le _) hf ⟨argLsl (r := ⟨.own, false, l.length, 2, _⟩) (f := tF cP g') rfl trivial (List.Mem.head _) (Nat.le_of_eq (Nat.zero_add _)) (fun a ha b hb => ?_), argCl (clA ⟨trivial, trivial, trivial, trivial⟩), trivial⟩ ?_
            · refine ⟨?_, tF_cl cP_cl g' a b⟩
              show updR (tF cP (lF dP l)) (0 + (k : Int).toNat) [vi (lF dP l (0 + (k : Int).toNat)).1, vi (IntKind.i64.wrap ((lF dP l (0 + (k : Int).toNat)).2 + m))] (0 + a) b = _
              rw [Nat.zero_add a, ek, hw4, hg']
              exact updR_o (c := cP) (y := ((lF dP l k).1, (lF dP l k).2 + m)) (L := [vi (lF dP l k).1, vi ((lF dP l k).2 + m)]) rfl a b
            rintro _ rfl
            repeat' (first | refine xo 4000 rfl ?_ ?_ | refine xw 4000 rfl ?_ ?_ | refine xk 4000 rfl ?_ ?_ | exact trivial | ((with_reducible (show AllP (_ :: _))); refine And.intro ?_ ?_) | refine xs rfl ?_ ?_ | refine xs_done ?_ | refine pop_callv rfl rfl rfl rfl rfl (haw) rfl rfl rfl ?_ | refine xs_call rfl rfl rfl rfl rfl rfl (haw) rfl rfl rfl ?_ | refine xs_one (ch := []) rfl rfl rfl (pst_callv rfl rfl rfl rfl rfl (haw) rfl rfl rfl ?_) | refine pop_callgv rfl rfl rfl rfl rfl rfl (fun _ => haw) (by first | exact fun h => ⟨h, trivial⟩ | exact fun _ => trivial | exact fun h => ⟨h, h, trivial⟩) rfl rfl rfl ?_ | refine xs_one (ch := []) rfl rfl rfl (pst_callgv rfl rfl rfl rfl rfl rfl (fun _ => haw) (by first | exact fun h => ⟨h, trivial⟩ | exact fun _ => trivial | exact fun h => ⟨h, h, trivial⟩) rfl rfl rfl ?_) | refine pcond_t rfl ?_ | refine pcond_f rfl ?_ | refine kround_exit ?_ | refine kround_ret ?_ | refine kround_next ?_ | refine kloop_ret ?_ | refine kloop_exit ?_ | refine kcut_ret ?_ | refine kcut_exit ?_ | refine xo0 4000 rfl ?_ ?_ | refine xw0 4000 rfl ?_ ?_ | exact qq | fail)
            refine xdone ?_
            exact kretv rfl ⟨trivial, trivial⟩ rfl rfl
      · have ek : 0 + (k : Int).toNat = k := by omega
        have hw2 : IntKind.i64.wrap ((lF dP l k).1 + (1 + bb)) = (lF dP l k).1 + (1 + bb) := w64 (by omega) (by omega)
        repeat' (first | refine xo 4000 rfl ?_ ?_ | refine xw 4000 rfl ?_ ?_ | refine xk 4000 rfl ?_ ?_ | exact trivial | ((with_reducible (show AllP (_ :: _))); refine And.intro ?_ ?_) | refine xs rfl ?_ ?_ | refine xs_done ?_ | refine pcond_t rfl ?_ | refine pcond_f rfl ?_ | refine kround_exit ?_ | refine kround_ret ?_ | refine kround_next ?_ | refine kloop_ret ?_ | refine kloop_exit ?_ | refine kcut_ret ?_ | refine kcut_exit ?_ | refine xo0 4000 rfl ?_ ?_ | refine xw0 4000 rfl ?_ ?_ | exact qq | fail)
        rw [ek, hw2]
        refine pcut (fun st => ∃ m : Int, m ≠ 0 ∧ 1 ≤ (lF dP l k).1 + m ∧ (lF dP l k).1 + m ≤ 2147483647 ∧ st = ⟨[(10, .ptr 0 0 0), (12, vi k), (13, .lsl 1 0 l.length), (14, vi m)], [rC X.1, oRow cP 2 l.length (lF dP l)]⟩) ?_ ?_
        · refine pcond rfl ?_ ?_ <;> intro hc3 <;> simp at hc3
          · repeat' (first | refine xo 4000 rfl ?_ ?_ | refine xw 4000 rfl ?_ ?_ | refine xk 4000 rfl ?_ ?_ | exact trivial | ((with_reducible (show AllP (_ :: _))); refine And.intro ?_ ?_) | refine xs rfl ?_ ?_ | refine xs_done ?_ | refine pcond_t rfl ?_ | refine pcond_f rfl ?_ | refine kround_exit ?_ | refine kround_ret ?_ | refine kround_next ?_ | refine kloop_ret ?_ | refine kloop_exit ?_ | refine kcut_ret ?_ | refine kcut_exit ?_ | refine xo0 4000 rfl ?_ ?_ | refine xw0 4000 rfl ?_ ?_ | exact qq | fail)
            exact kcut (st' := ⟨[(10, .ptr 0 0 0), (12, vi k), (13, .lsl 1 0 l.length), (14, vi (-1))], [rC X.1, oRow cP 2 l.length (lF dP l)]⟩) (can_rowsv [0,1] (k0_sel hk rfl) rfl (by (repeat (refine SelV.cons rfl rqq ?_)); exact SelV.nil) tmq) ⟨-1, by omega, by omega, by omega, rfl⟩
          · repeat' (first | refine xo 4000 rfl ?_ ?_ | refine xw 4000 rfl ?_ ?_ | refine xk 4000 rfl ?_ ?_ | exact trivial | ((with_reducible (show AllP (_ :: _))); refine And.intro ?_ ?_) | refine xs rfl ?_ ?_ | refine xs_done ?_ | refine pcond_t rfl ?_ | refine pcond_f rfl ?_ | refine kround_exit ?_ | refine kround_ret ?_ | refine kround_next ?_ | refine kloop_ret ?_ | refine kloop_exit ?_ | refine kcut_ret ?_ | refine kcut_exit ?_ | refine xo0 4000 rfl ?_ ?_ | refine xw0 4000 rfl ?_ ?_ | exact qq | fail)
            exact kcut (st' := ⟨[(10, .ptr 0 0 0), (12, vi k), (13, .lsl 1 0 l.length), (14, vi (1 + bb))], [rC X.1, oRow cP 2 l.length (lF dP l)]⟩) (can_rowsv [0,1] (k0_sel hk rfl) rfl (by (repeat (refine SelV.cons rfl rqq ?_)); exact SelV.nil) tmq) ⟨1 + bb, by omega, by omega, by omega, rfl⟩
        · rintro _ ⟨m, m0, m1, m2, rfl⟩
          have hw4 : IntKind.i64.wrap ((lF dP l k).1 + m) = (lF dP l k).1 + m := w64 (by omega) (by omega)
          obtain ⟨g', hg'⟩ : ∃ g' : Nat → Pay, g' = updA (lF dP l) k ((lF dP l k).1 + m, (lF dP l k).2) := ⟨_, rfl⟩
          have g1 : g' k = ((lF dP l k).1 + m, (lF dP l k).2) := by rw [hg']; exact if_pos rfl
          have g2 : ∀ i, i ≠ k → g' i = lF dP l i := fun i hi => by rw [hg']; exact if_neg hi
          have hf := fin l.length g' (by omega) (fun i hi => by
            by_cases e : i = k
            · subst e; rw [g1, payOk_iff]; simp only; omega
            · rw [g2 i e]; exact hok i hi) (fun h => by
            rw [eX1] at h
            have h1 : sumN l.length (fun i => (g' i).1) = sumN l.length (fun i => (lF dP l i).1) := congrArg (fun x : Cto => x.2.2) h
            rw [sumN_upd (fun i => (lF dP l i).1) (fun i => (g' i).1) k l.length hkl (fun i _ hi => by show (g' i).1 = _; rw [g2 i hi])] at h1
            simp only [g1] at h1
            omega)
          repeat' (first | refine xo 4000 rfl ?_ ?_ | refine xw 4000 rfl ?_ ?_ | refine xk 4000 rfl ?_ ?_ | exact trivial | ((with_reducible (show AllP (_ :: _))); refine And.intro ?_ ?_) | refine xs rfl ?_ ?_ | refine xs_done ?_ | refine pcond_t rfl ?_ | refine pcond_f rfl ?_ | refine kround_exit ?_ | refine kround_ret ?_ | refine kround_next ?_ | refine kloop_ret ?_ | refine kloop_exit ?_ | refine kcut_ret ?_ | refine kcut_exit ?_ | refine xo0 4000 rfl ?_ ?_ | refine xw0 4000 rfl ?_ ?_ | exact qq | fail)
          refine pop_callc [1] rfl rfl rfl rfl rfl rfl (by intro l hl; rw [hk]; exact Nat.zero_le _) hf ⟨argLsl (r := ⟨.own, false, l.length, 2, _⟩) (f := tF cP g') rfl trivial (List.Mem.head _) (Nat.le_of_eq (Nat.zero_add _)) (fun a ha b hb => ?_), argCl (clA ⟨trivial, trivial, trivial, trivial⟩), trivial⟩ ?_
          · refine ⟨?_, tF_cl cP_cl g' a b⟩
            show updR (tF cP (lF dP l)) (0 + (k : Int).toNat) [vi (IntKind.i64.wrap ((lF dP l (0 + (k : Int).toNat)).1 + m)), vi (lF dP l (0 + (k : Int).toNat)).2] (0 + a) b = _
            rw [Nat.zero_add a, ek, hw4, hg']
            exact updR_o (c := cP) (y := ((lF dP l k).1 + m, (lF dP l k).2)) (L := [vi ((lF dP l k).1 + m), vi (lF dP l k).2]) rfl a b
          rintro _ rfl
          repeat' (first | refine xo 4000 rfl ?_ ?_ | refine xw 4000 rfl ?_ ?_ | refine xk 4000 rfl ?_ ?_ | exact trivial | ((with_reducible (show AllP (_ :: _))); refine And.intro ?_ ?_) | refine xs rfl ?_ ?_ | refine xs_done ?_ | refine pop_callv rfl rfl rfl rfl rfl (haw) rfl rfl rfl ?_ | refine xs_call rfl rfl rfl rfl rfl rfl (haw) rfl rfl rfl ?_ | refine xs_one (ch := []) rfl rfl rfl (pst_callv rfl rfl rfl rfl rfl (haw) rfl rfl rfl ?_) | refine pop_callgv rfl rfl rfl rfl rfl rfl (fun _ => haw) (by first | exact fun h => ⟨h, trivial⟩ | exact fun _ => trivial | exact fun h => ⟨h, h, trivial⟩) rfl rfl rfl ?_ | refine xs_one (ch := []) rfl rfl rfl (pst_callgv rfl rfl rfl rfl rfl rfl (fun _ => haw) (by first | exact fun h => ⟨h, trivial⟩ | exact fun _ => trivial | exact fun h => ⟨h, h, trivial⟩) rfl rfl rfl ?_) | refine pcond_t rfl ?_ | refine pcond_f rfl ?_ | refine kround_exit ?_ | refine kround_ret ?_ | refine kround_next ?_ | refine kloop_ret ?_ | refine kloop_exit ?_ | refine kcut_ret ?_ | refine kcut_exit ?_ | refine xo0 4000 rfl ?_ ?_ | refine xw0 4000 rfl ?_ ?_ | exact qq | fail)
          refine xdone ?_
          exact kretv rfl ⟨trivial, trivial⟩ rfl rfl
theorem detects_walk (v : Value) (l : List Int) (a b c : Int) (w : World) (h : IntsAt w v l) :
    Calls G.P 4 #[v, .int .i64 a, .int .i64 b, .int .i64 c] w fun e w' => e = .returned (.bool true) ∧ Ext w w' := by
  have hl : l.length ≤ 9223372036854775807 := by obtain ⟨_, _, _, _, h, _⟩ := h; exact h
  exact law_of (detects_c l.length _ a b c hl) ⟨h.rel _, rfl, rfl, rfl, trivial⟩
end Go.Proofs.Ytnjikclflfioeaa
