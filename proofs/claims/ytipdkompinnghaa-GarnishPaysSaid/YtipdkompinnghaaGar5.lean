/- Elements: Same, At, Sum. -/
import Derived.Test.YtipdkompinnghaaGen31b
set_option linter.unusedSimpArgs false
set_option linter.unusedVariables false
set_option maxRecDepth 100000
namespace Go.Proofs.Ytipdkompinnghaa
theorem same26_c (l : List Elt) (hl : l.length ≤ 1000) : PureC G.P 33 [vEs l, vEs l] (fun r => r = vb true) := by
  refine pure_of (G := G.toPg) (fn := Try.f33) Try.func33 rfl rfl rfl ?_; intro Γ hk
  repeat' (first | refine xo 4000 rfl ?_ ?_ | refine xw 4000 rfl ?_ ?_ | refine xk 4000 rfl ?_ ?_ | exact trivial | ((with_reducible (show AllP (_ :: _))); refine And.intro ?_ ?_) | refine xs rfl ?_ ?_ | refine xs_done ?_ | refine pcond_t rfl ?_ | refine pcond_f rfl ?_ | refine kround_exit ?_ | refine kround_ret ?_ | refine kround_next ?_ | refine kloop_ret ?_ | refine kloop_exit ?_ | refine kcut_ret ?_ | refine kcut_exit ?_ | refine xo0 4000 rfl ?_ ?_ | refine xw0 4000 rfl ?_ ?_ | exact qq | fail)
  refine pcond rfl ?_ ?_ <;> intro hc
  · simp at hc
  · repeat' (first | refine xo 4000 rfl ?_ ?_ | refine xw 4000 rfl ?_ ?_ | refine xk 4000 rfl ?_ ?_ | exact trivial | ((with_reducible (show AllP (_ :: _))); refine And.intro ?_ ?_) | refine xs rfl ?_ ?_ | refine xs_done ?_ | refine pcond_t rfl ?_ | refine pcond_f rfl ?_ | refine kround_exit ?_ | refine kround_ret ?_ | refine kround_next ?_ | refine kloop_ret ?_ | refine kloop_exit ?_ | refine kcut_ret ?_ | refine kcut_exit ?_ | refine xo0 4000 rfl ?_ ?_ | refine xw0 4000 rfl ?_ ?_ | exact qq | fail)
    refine pcan (can_sel [0, 1, 5]) ?_
    refine ploop (fun q st => ∃ i : Nat, i ≤ l.length ∧ q = l.length - i ∧ st = ⟨[(0, vEs l), (1, vEs l), (5, vi i)], []⟩) l.length ⟨0, by omega, rfl, rfl⟩ ?_
    rintro _ _ ⟨i, hi, rfl, rfl⟩
    repeat' (first | refine xo 4000 rfl ?_ ?_ | refine xw 4000 rfl ?_ ?_ | refine xk 4000 rfl ?_ ?_ | exact trivial | ((with_reducible (show AllP (_ :: _))); refine And.intro ?_ ?_) | refine xs rfl ?_ ?_ | refine xs_done ?_ | refine pcond_t rfl ?_ | refine pcond_f rfl ?_ | refine kround_exit ?_ | refine kround_ret ?_ | refine kround_next ?_ | refine kloop_ret ?_ | refine kloop_exit ?_ | refine kcut_ret ?_ | refine kcut_exit ?_ | refine xo0 4000 rfl ?_ ?_ | refine xw0 4000 rfl ?_ ?_ | exact qq | fail)
    refine pcond rfl ?_ ?_ <;> intro hc2
    · simp at hc2
      repeat' (first | refine xo 4000 rfl ?_ ?_ | refine xw 4000 rfl ?_ ?_ | refine xk 4000 rfl ?_ ?_ | exact trivial | ((with_reducible (show AllP (_ :: _))); refine And.intro ?_ ?_) | refine xs rfl ?_ ?_ | refine xs_done ?_ | refine xs_start (id := 6) true [.take 0, .take 1, .take 2, .take 3, .take 4, .take 5, .take 6, .take 7, .take 8] 0 rfl rfl (by kernel_rfl) ?_ | refine pcond_t rfl ?_ | refine pcond_f rfl ?_ | refine kround_exit ?_ | refine kround_ret ?_ | refine kround_next ?_ | refine kloop_ret ?_ | refine kloop_exit ?_ | refine kcut_ret ?_ | refine kcut_exit ?_ | refine xo0 4000 rfl ?_ ?_ | refine xw0 4000 rfl ?_ ?_ | exact qq | fail)
      refine pcond rfl ?_ ?_ <;> intro hc3
      · simp at hc3
      · repeat' (first | refine xo 4000 rfl ?_ ?_ | refine xw 4000 rfl ?_ ?_ | refine xk 4000 rfl ?_ ?_ | exact trivial | ((with_reducible (show AllP (_ :: _))); refine And.intro ?_ ?_) | refine xs rfl ?_ ?_ | refine xs_done ?_ | refine pcond_t rfl ?_ | refine pcond_f rfl ?_ | refine kround_exit ?_ | refine kround_ret ?_ | refine kround_next ?_ | refine kloop_ret ?_ | refine kloop_exit ?_ | refine kcut_ret ?_ | refine kcut_exit ?_ | refine xo0 4000 rfl ?_ ?_ | refine xw0 4000 rfl ?_ ?_ | exact qq | fail)
        rw [show IntKind.i64.wrap ((i : Int) + 1) = ((i + 1 : Nat) : Int) from w64 (by omega) (by omega)]
        exact kloop_next (l.length - (i + 1)) (can_sel [0, 1, 5]) (by omega) ⟨i + 1, by omega, rfl, rfl⟩
    · repeat' (first | refine xo 4000 rfl ?_ ?_ | refine xw 4000 rfl ?_ ?_ | refine xk 4000 rfl ?_ ?_ | exact trivial | ((with_reducible (show AllP (_ :: _))); refine And.intro ?_ ?_) | refine xs rfl ?_ ?_ | refine xs_done ?_ | refine pcond_t rfl ?_ | refine pcond_f rfl ?_ | refine kround_exit ?_ | refine kround_ret ?_ | refine kround_next ?_ | refine kloop_ret ?_ | refine kloop_exit ?_ | refine kcut_ret ?_ | refine kcut_exit ?_ | refine xo0 4000 rfl ?_ ?_ | refine xw0 4000 rfl ?_ ?_ | exact qq | fail)
      exact kretv rfl ⟨trivial, trivial⟩ rfl rfl
/-- the amount of a code -/
def atE (c : ByteArray) : List Elt → Int
  | [] => 0
  | x :: l => if (x.cd.toList == c.toList) = true then x.am else atE c l
theorem atE_drop {c : ByteArray} {l : List Elt} {i : Nat} (hi : i < l.length) : atE c (l.drop i) = if ((lF dE l i).cd.toList == c.toList) = true then (lF dE l i).am else atE c (l.drop (i + 1)) := by
  have e : lF dE l i = l[i] := by unfold lF; rw [List.getD_eq_getElem?_getD, List.getElem?_eq_getElem hi]; rfl
  rw [List.drop_eq_getElem_cons hi, atE, e]
theorem at26_c (l : List Elt) (c : ByteArray) (hl : l.length ≤ 1000) : PureC G.P 36 [vEs l, vs c] (fun r => r = vi (atE c l)) := by
  refine pure_of (G := G.toPg) (fn := Try.f36) Try.func36 rfl rfl rfl ?_; intro Γ hk
  repeat' (first | refine xo 4000 rfl ?_ ?_ | refine xw 4000 rfl ?_ ?_ | refine xk 4000 rfl ?_ ?_ | exact trivial | ((with_reducible (show AllP (_ :: _))); refine And.intro ?_ ?_) | refine xs rfl ?_ ?_ | refine xs_done ?_ | refine pcond_t rfl ?_ | refine pcond_f rfl ?_ | refine kround_exit ?_ | refine kround_ret ?_ | refine kround_next ?_ | refine kloop_ret ?_ | refine kloop_exit ?_ | refine kcut_ret ?_ | refine kcut_exit ?_ | refine xo0 4000 rfl ?_ ?_ | refine xw0 4000 rfl ?_ ?_ | exact qq | fail)
  refine pcan (can_sel [0, 1, 5]) ?_
  refine ploop (fun q st => ∃ i : Nat, i ≤ l.length ∧ atE c l = atE c (l.drop i) ∧ q = l.length - i ∧ st = ⟨[(0, vEs l), (1, vs c), (5, vi i)], []⟩) l.length ⟨0, by omega, rfl, rfl, rfl⟩ ?_
  rintro _ _ ⟨i, hi, he, rfl, rfl⟩
  repeat' (first | refine xo 4000 rfl ?_ ?_ | refine xw 4000 rfl ?_ ?_ | refine xk 4000 rfl ?_ ?_ | exact trivial | ((with_reducible (show AllP (_ :: _))); refine And.intro ?_ ?_) | refine xs rfl ?_ ?_ | refine xs_done ?_ | refine pcond_t rfl ?_ | refine pcond_f rfl ?_ | refine kround_exit ?_ | refine kround_ret ?_ | refine kround_next ?_ | refine kloop_ret ?_ | refine kloop_exit ?_ | refine kcut_ret ?_ | refine kcut_exit ?_ | refine xo0 4000 rfl ?_ ?_ | refine xw0 4000 rfl ?_ ?_ | exact qq | fail)
  refine pcond rfl ?_ ?_ <;> intro hc
  · simp at hc
    repeat' (first | refine xo 4000 rfl ?_ ?_ | refine xw 4000 rfl ?_ ?_ | refine xk 4000 rfl ?_ ?_ | exact trivial | ((with_reducible (show AllP (_ :: _))); refine And.intro ?_ ?_) | refine xs rfl ?_ ?_ | refine xs_done ?_ | refine pcond_t rfl ?_ | refine pcond_f rfl ?_ | refine kround_exit ?_ | refine kround_ret ?_ | refine kround_next ?_ | refine kloop_ret ?_ | refine kloop_exit ?_ | refine kcut_ret ?_ | refine kcut_exit ?_ | refine xo0 4000 rfl ?_ ?_ | refine xw0 4000 rfl ?_ ?_ | exact qq | fail)
    refine pcond rfl ?_ ?_ <;> intro hc2
    · have hc2 : ((lF dE l i).cd.toList == c.toList) = true := hc2
      repeat' (first | refine xo 4000 rfl ?_ ?_ | refine xw 4000 rfl ?_ ?_ | refine xk 4000 rfl ?_ ?_ | exact trivial | ((with_reducible (show AllP (_ :: _))); refine And.intro ?_ ?_) | refine xs rfl ?_ ?_ | refine xs_done ?_ | refine pcond_t rfl ?_ | refine pcond_f rfl ?_ | refine kround_exit ?_ | refine kround_ret ?_ | refine kround_next ?_ | refine kloop_ret ?_ | refine kloop_exit ?_ | refine kcut_ret ?_ | refine kcut_exit ?_ | refine xo0 4000 rfl ?_ ?_ | refine xw0 4000 rfl ?_ ?_ | exact qq | fail)
      refine kretv rfl ⟨trivial, trivial⟩ rfl (eqI ?_)
      rw [he, atE_drop hc, if_pos hc2]; rfl
    · have hc2 : ((lF dE l i).cd.toList == c.toList) = false := hc2
      repeat' (first | refine xo 4000 rfl ?_ ?_ | refine xw 4000 rfl ?_ ?_ | refine xk 4000 rfl ?_ ?_ | exact trivial | ((with_reducible (show AllP (_ :: _))); refine And.intro ?_ ?_) | refine xs rfl ?_ ?_ | refine xs_done ?_ | refine pcond_t rfl ?_ | refine pcond_f rfl ?_ | refine kround_exit ?_ | refine kround_ret ?_ | refine kround_next ?_ | refine kloop_ret ?_ | refine kloop_exit ?_ | refine kcut_ret ?_ | refine kcut_exit ?_ | refine xo0 4000 rfl ?_ ?_ | refine xw0 4000 rfl ?_ ?_ | exact qq | fail)
      rw [show IntKind.i64.wrap ((i : Int) + 1) = ((i + 1 : Nat) : Int) from w64 (by omega) (by omega)]
      exact kloop_next (l.length - (i + 1)) (can_sel [0, 1, 5]) (by omega) ⟨i + 1, by omega, by rw [he, atE_drop hc, if_neg (by simp [hc2])], rfl, rfl⟩
  · simp at hc
    repeat' (first | refine xo 4000 rfl ?_ ?_ | refine xw 4000 rfl ?_ ?_ | refine xk 4000 rfl ?_ ?_ | exact trivial | ((with_reducible (show AllP (_ :: _))); refine And.intro ?_ ?_) | refine xs rfl ?_ ?_ | refine xs_done ?_ | refine pcond_t rfl ?_ | refine pcond_f rfl ?_ | refine kround_exit ?_ | refine kround_ret ?_ | refine kround_next ?_ | refine kloop_ret ?_ | refine kloop_exit ?_ | refine kcut_ret ?_ | refine kcut_exit ?_ | refine xo0 4000 rfl ?_ ?_ | refine xw0 4000 rfl ?_ ?_ | exact qq | fail)
    refine kretv rfl ⟨trivial, trivial⟩ rfl (eqI ?_)
    rw [he, List.drop_eq_nil_of_le (by omega)]; rfl
theorem sum27_c (l : List Elt) (hl : l.length ≤ 1000) (hb : ∀ i, i < l.length → 0 ≤ (lF dE l i).am ∧ (lF dE l i).am ≤ 2000000000) : PureC G.P 35 [vEs l] (fun r => r = vi (sumN l.length (fun i => (lF dE l i).am))) := by
  obtain ⟨f, hf⟩ : ∃ f : Nat → Int, f = fun i => (lF dE l i).am := ⟨_, rfl⟩
  rw [← hf]
  have hbf : ∀ i, i < l.length → 0 ≤ f i ∧ f i ≤ 2000000000 := fun i hi => by rw [hf]; exact hb i hi
  refine pure_of (G := G.toPg) (fn := Try.f35) Try.func35 rfl rfl rfl ?_; intro Γ hk
  repeat' (first | refine xo 4000 rfl ?_ ?_ | refine xw 4000 rfl ?_ ?_ | refine xk 4000 rfl ?_ ?_ | exact trivial | ((with_reducible (show AllP (_ :: _))); refine And.intro ?_ ?_) | refine xs rfl ?_ ?_ | refine xs_done ?_ | refine pcond_t rfl ?_ | refine pcond_f rfl ?_ | refine kround_exit ?_ | refine kround_ret ?_ | refine kround_next ?_ | refine kloop_ret ?_ | refine kloop_exit ?_ | refine kcut_ret ?_ | refine kcut_exit ?_ | refine xo0 4000 rfl ?_ ?_ | refine xw0 4000 rfl ?_ ?_ | exact qq | fail)
  refine pcan (can_sel [0, 3, 4]) ?_
  refine ploop (fun q st => ∃ i : Nat, i ≤ l.length ∧ q = l.length - i ∧ st = ⟨[(0, vEs l), (3, vi (sumN i f)), (4, vi i)], []⟩) l.length ⟨0, by omega, rfl, rfl⟩ ?_
  rintro _ _ ⟨i, hi, rfl, rfl⟩
  have h0 : 0 ≤ sumN i f ∧ sumN i f ≤ i * 2000000000 := by
    refine ⟨sumN_nonneg fun a ha => (hbf a (by omega)).1, ?_⟩
    have := sumN_le (n := i) (f := f) (g := fun _ => 2000000000) fun a ha => (hbf a (by omega)).2
    rw [sumN_const] at this; exact this
  repeat' (first | refine xo 4000 rfl ?_ ?_ | refine xw 4000 rfl ?_ ?_ | refine xk 4000 rfl ?_ ?_ | exact trivial | ((with_reducible (show AllP (_ :: _))); refine And.intro ?_ ?_) | refine xs rfl ?_ ?_ | refine xs_done ?_ | refine pcond_t rfl ?_ | refine pcond_f rfl ?_ | refine kround_exit ?_ | refine kround_ret ?_ | refine kround_next ?_ | refine kloop_ret ?_ | refine kloop_exit ?_ | refine kcut_ret ?_ | refine kcut_exit ?_ | refine xo0 4000 rfl ?_ ?_ | refine xw0 4000 rfl ?_ ?_ | exact qq | fail)
  refine pcond rfl ?_ ?_ <;> intro hc <;> simp at hc
  · have h1 := hbf i hc
    have e : (lF dE l (i : Int).toNat).am = f i := by rw [hf]; rfl
    repeat' (first | refine xo 4000 rfl ?_ ?_ | refine xw 4000 rfl ?_ ?_ | refine xk 4000 rfl ?_ ?_ | exact trivial | ((with_reducible (show AllP (_ :: _))); refine And.intro ?_ ?_) | refine xs rfl ?_ ?_ | refine xs_done ?_ | refine pcond_t rfl ?_ | refine pcond_f rfl ?_ | refine kround_exit ?_ | refine kround_ret ?_ | refine kround_next ?_ | refine kloop_ret ?_ | refine kloop_exit ?_ | refine kcut_ret ?_ | refine kcut_exit ?_ | refine xo0 4000 rfl ?_ ?_ | refine xw0 4000 rfl ?_ ?_ | exact qq | fail)
    rw [e, show IntKind.i64.wrap (sumN i f + f i) = sumN (i + 1) f from by rw [w64 (by omega) (by omega)]; rfl, show IntKind.i64.wrap ((i : Int) + 1) = ((i + 1 : Nat) : Int) from w64 (by omega) (by omega)]
    exact kloop_next (l.length - (i + 1)) (can_sel [0, 3, 4]) (by omega) ⟨i + 1, by omega, rfl, rfl⟩
  · have : i = l.length := by omega
    subst this
    repeat' (first | refine xo 4000 rfl ?_ ?_ | refine xw 4000 rfl ?_ ?_ | refine xk 4000 rfl ?_ ?_ | exact trivial | ((with_reducible (show AllP (_ :: _))); refine And.intro ?_ ?_) | refine xs rfl ?_ ?_ | refine xs_done ?_ | refine pcond_t rfl ?_ | refine pcond_f rfl ?_ | refine kround_exit ?_ | refine kround_ret ?_ | refine kround_next ?_ | refine kloop_ret ?_ | refine kloop_exit ?_ | refine kcut_ret ?_ | refine kcut_exit ?_ | refine xo0 4000 rfl ?_ ?_ | refine xw0 4000 rfl ?_ ?_ | exact qq | fail)
    exact kretv rfl ⟨trivial, trivial⟩ rfl rfl
end Go.Proofs.Ytipdkompinnghaa
