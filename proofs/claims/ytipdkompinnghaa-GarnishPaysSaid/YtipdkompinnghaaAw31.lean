/- payrolllaw31: awake; what decks yield. -/
import Derived.Test.YtipdkompinnghaaGar4
import Derived.Test.YtipdkompinnghaaDek
import Derived.Test.YtipdkompinnghaaBridge
set_option linter.unusedSimpArgs false
set_option linter.unusedVariables false
set_option maxRecDepth 100000
namespace Go.Proofs.Ytipdkompinnghaa
def sA : Shd := ⟨1000, 0, 0, 300000, 3000⟩
def sB : Shd := ⟨0, 0, 0, 0, 0⟩
def dO : Ord := ⟨⟨#[]⟩, 0, 0, 0, 0⟩
def oA : Nat → Ord := lF dO [⟨⟨#[97]⟩, 1, 0, 0, 300⟩, ⟨⟨#[98]⟩, 1, 0, 0, 600⟩]
theorem aw1 : protS sA 2000 0 = (1300, 0) := by decide +kernel
theorem aw2 : protS sA 4000 0 = (1600, 0) := by decide +kernel
theorem aw3 : (attS sB 400 0 2 oA).2 = 0 ∧ (attS sB 400 0 2 oA).1.length = 2 ∧ (lF dE (attS sB 400 0 2 oA).1 0).am = 133 ∧ (lF dE (attS sB 400 0 2 oA).1 1).am = 267 := by decide +kernel
theorem argAw {mem : List Row} {L : List Nat} {l : Nat} (hr : rowAt mem l = some ⟨.own, false, 2, 5, fun a b => nthP [vs ⟨#[97]⟩, vi 1, vi 0, vi 0, vi 300, vs ⟨#[98]⟩, vi 1, vi 0, vi 0, vi 600] (a * 5 + b)⟩) (hL : l ∈ L) : ArgOk mem L (.lsl l 0 2) (vOs 2 oA) := by
  refine argLsl (r := ⟨.own, false, 2, 5, _⟩) hr trivial hL (by decide) fun a ha b hb => ?_
  have hb : b < 5 := hb
  rcases (by omega : a = 0 ∨ a = 1) with rfl | rfl <;> rcases (by omega : b = 0 ∨ b = 1 ∨ b = 2 ∨ b = 3 ∨ b = 4) with rfl | rfl | rfl | rfl | rfl <;> exact ⟨rfl, trivial⟩
theorem awake_c : PureC G.P 13 [] (fun r => r = vb true) := by
  have h1 := protected_c sA 2000 0
  rw [aw1] at h1
  have h2 := protected_c sA 4000 0
  rw [aw2] at h2
  have h3 := attach_c sB 400 0 2 oA (fun i hi => by rcases (by omega : i = 0 ∨ i = 1) with rfl | rfl <;> decide)
  obtain ⟨a1, a2, a3, a4⟩ := aw3
  generalize attS sB 400 0 2 oA = X at *
  obtain ⟨l, e⟩ := X
  simp only at a1 a2 a3 a4
  subst a1
  have h3 : PureC G.P 29 [vH sB, vi 400, vi 0, vOs 2 oA] (fun r => r = .tup 2 (nthP [.vsl l.length 2 (tF cE (lF dE l)), vi 0])) := h3
  rw [a2] at h3
  refine pure_of (G := G.toPg) (fn := Try.f13) Try.func13 rfl rfl rfl ?_; intro Γ hk
  repeat' (first | refine xo 4000 rfl ?_ ?_ | refine xw 4000 rfl ?_ ?_ | refine xk 4000 rfl ?_ ?_ | exact trivial | ((with_reducible (show AllP (_ :: _))); refine And.intro ?_ ?_) | refine xs rfl ?_ ?_ | refine xs_done ?_ | refine pop_callv rfl rfl rfl rfl rfl (h1) rfl rfl rfl ?_ | refine xs_call rfl rfl rfl rfl rfl rfl (h1) rfl rfl rfl ?_ | refine xs_one (ch := []) rfl rfl rfl (pst_callv rfl rfl rfl rfl rfl (h1) rfl rfl rfl ?_) | refine pop_callgv rfl rfl rfl rfl rfl rfl (fun _ => h1) (by first | exact fun h => ⟨h, trivial⟩ | exact fun _ => trivial | exact fun h => ⟨h, h, trivial⟩) rfl rfl rfl ?_ | refine xs_one (ch := []) rfl rfl rfl (pst_callgv rfl rfl rfl rfl rfl rfl (fun _ => h1) (by first | exact fun h => ⟨h, trivial⟩ | exact fun _ => trivial | exact fun h => ⟨h, h, trivial⟩) rfl rfl rfl ?_) | refine pop_callv rfl rfl rfl rfl rfl (h2) rfl rfl rfl ?_ | refine xs_call rfl rfl rfl rfl rfl rfl (h2) rfl rfl rfl ?_ | refine xs_one (ch := []) rfl rfl rfl (pst_callv rfl rfl rfl rfl rfl (h2) rfl rfl rfl ?_) | refine pop_callgv rfl rfl rfl rfl rfl rfl (fun _ => h2) (by first | exact fun h => ⟨h, trivial⟩ | exact fun _ => trivial | exact fun h => ⟨h, h, trivial⟩) rfl rfl rfl ?_ | refine xs_one (ch := []) rfl rfl rfl (pst_callgv rfl rfl rfl rfl rfl rfl (fun _ => h2) (by first | exact fun h => ⟨h, trivial⟩ | exact fun _ => trivial | exact fun h => ⟨h, h, trivial⟩) rfl rfl rfl ?_) | refine pcond_t rfl ?_ | refine pcond_f rfl ?_ | refine kround_exit ?_ | refine kround_ret ?_ | refine kround_next ?_ | refine kloop_ret ?_ | refine kloop_exit ?_ | refine kcut_ret ?_ | refine kcut_exit ?_ | refine xo0 4000 rfl ?_ ?_ | refine xw0 4000 rfl ?_ ?_ | exact qq | fail)
  refine pop_callc [1] rfl rfl rfl rfl rfl rfl (by intro l hl; rw [hk]; exact Nat.zero_le _) h3 ⟨argCl (clA (by exact ⟨trivial, trivial, trivial, trivial, trivial, trivial⟩)), argVal, argVal, argAw rfl (List.Mem.head _), trivial⟩ ?_
  rintro _ rfl
  repeat' (first | refine xo 4000 rfl ?_ ?_ | refine xw 4000 rfl ?_ ?_ | refine xk 4000 rfl ?_ ?_ | exact trivial | ((with_reducible (show AllP (_ :: _))); refine And.intro ?_ ?_) | refine xs rfl ?_ ?_ | refine xs_done ?_ | refine pcond_t rfl ?_ | refine pcond_f rfl ?_ | refine kround_exit ?_ | refine kround_ret ?_ | refine kround_next ?_ | refine kloop_ret ?_ | refine kloop_exit ?_ | refine kcut_ret ?_ | refine kcut_exit ?_ | refine xo0 4000 rfl ?_ ?_ | refine xw0 4000 rfl ?_ ?_ | exact qq | fail)
  refine kretv rfl ⟨trivial, trivial⟩ rfl (eqB ?_)
  have b3 : (lF dE l (0 : Int).toNat).am = 133 := a3
  have b4 : (lF dE l (1 : Int).toNat).am = 267 := a4
  simp [b3, b4, a3, a4]
theorem drate_t : DekC G.P 42 2 [] (fun r => ∃ x : Int, r = vi x ∧ 0 ≤ x ∧ x ≤ 1000000) := by
  intro n g at_ hn h1 h2
  refine ptr_of (G := G.toPg) (fn := Try.f42) Try.func42 rfl rfl rfl ?_; intro Γ hk
  repeat' (first | refine xo 4000 rfl ?_ ?_ | refine xw 4000 rfl ?_ ?_ | refine xk 4000 rfl ?_ ?_ | exact trivial | ((with_reducible (show AllP (_ :: _))); refine And.intro ?_ ?_) | refine xs rfl ?_ ?_ | refine xs_done ?_ | (refine pop_dek (G := G) rfl rfl rfl rfl rfl rfl rfl rfl (fun _ => rfl) (dnext_t _ (by omega) (by omega)) hn (by omega) (by omega) rfl rfl ?_; rintro at_ _ b1 b2 ⟨x, rfl, hx1, hx2⟩) | (refine pop_dekl (G := G) rfl rfl rfl rfl rfl rfl rfl rfl rfl rfl rfl (by omega) rfl (fun _ => rfl) rfl (dpick_t _ _ rfl (by decide) (by decide)) hn (by omega) (by omega) ?_; rintro at_ _ b1 b2 ⟨x, rfl, hx⟩; simp only [unL, List.mem_cons, List.not_mem_nil, or_false] at hx) | refine pcond_t rfl ?_ | refine pcond_f rfl ?_ | refine kround_exit ?_ | refine kround_ret ?_ | refine kround_next ?_ | refine kloop_ret ?_ | refine kloop_exit ?_ | refine kcut_ret ?_ | refine kcut_exit ?_ | refine xo0 4000 rfl ?_ ?_ | refine xw0 4000 rfl ?_ ?_ | exact qq | fail)
  all_goals exact kdek rfl b1 (by omega) rfl ⟨trivial, trivial⟩ rfl ⟨_, rfl, by omega, by omega⟩
theorem damount_t : DekC G.P 23 2 [] (fun r => ∃ x : Int, r = vi x ∧ 0 ≤ x ∧ x ≤ 1000000000) := by
  intro n g at_ hn h1 h2
  refine ptr_of (G := G.toPg) (fn := Try.f23) Try.func23 rfl rfl rfl ?_; intro Γ hk
  repeat' (first | refine xo 4000 rfl ?_ ?_ | refine xw 4000 rfl ?_ ?_ | refine xk 4000 rfl ?_ ?_ | exact trivial | ((with_reducible (show AllP (_ :: _))); refine And.intro ?_ ?_) | refine xs rfl ?_ ?_ | refine xs_done ?_ | (refine pop_dek (G := G) rfl rfl rfl rfl rfl rfl rfl rfl (fun _ => rfl) (dnext_t _ (by omega) (by omega)) hn (by omega) (by omega) rfl rfl ?_; rintro at_ _ b1 b2 ⟨x, rfl, hx1, hx2⟩) | (refine pop_dekl (G := G) rfl rfl rfl rfl rfl rfl rfl rfl rfl rfl rfl (by omega) rfl (fun _ => rfl) rfl (dpick_t _ _ rfl (by decide) (by decide)) hn (by omega) (by omega) ?_; rintro at_ _ b1 b2 ⟨x, rfl, hx⟩; simp only [unL, List.mem_cons, List.not_mem_nil, or_false] at hx) | refine pcond_t rfl ?_ | refine pcond_f rfl ?_ | refine kround_exit ?_ | refine kround_ret ?_ | refine kround_next ?_ | refine kloop_ret ?_ | refine kloop_exit ?_ | refine kcut_ret ?_ | refine kcut_exit ?_ | refine xo0 4000 rfl ?_ ?_ | refine xw0 4000 rfl ?_ ?_ | (refine pcond rfl ?_ ?_ <;> intro hc) | exact qq | fail)
  all_goals exact kdek rfl b1 (by omega) rfl ⟨trivial, trivial⟩ rfl ⟨_, rfl, by omega, by omega⟩
end Go.Proofs.Ytipdkompinnghaa
