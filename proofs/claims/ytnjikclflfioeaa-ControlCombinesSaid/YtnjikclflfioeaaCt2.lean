/- control: awake; payments that a deck yields. -/
import Derived.Test.YtnjikclflfioeaaCt1
import Derived.Test.YtnjikclflfioeaaBridge
set_option linter.unusedSimpArgs false
set_option linter.unusedVariables false
set_option maxRecDepth 100000
namespace Go.Proofs.Ytnjikclflfioeaa
theorem CombR.uniq {n : Nat} {g : Nat → Pay} {L L' : List Pay} (h : CombR n g L) (h' : CombR n g L') : L = L' := by
  have hk : L.map (·.1) = L'.map (·.1) := by
    have hp : (L.map (·.1)).Perm (L'.map (·.1)) := (List.perm_ext_iff_of_nodup (h.srt.imp fun h => by omega) (h'.srt.imp fun h => by omega)).2 fun k => by rw [h.occ, h'.occ]
    exact hp.eq_of_pairwise (le := fun a b => a < b) (fun a b _ _ h1 h2 => by omega) h.srt h'.srt
  have : ∀ M M' : List Pay, (∀ p, p ∈ M → p.2 = sumE n g p.1) → (∀ p, p ∈ M' → p.2 = sumE n g p.1) → M.map (·.1) = M'.map (·.1) → M = M' := by
    intro M
    induction M with
    | nil => intro M' _ _ he; cases M' with | nil => rfl | cons => simp at he
    | cons p M ih =>
      intro M' h1 h2 he
      cases M' with
      | nil => simp at he
      | cons q M' =>
        simp only [List.map_cons, List.cons.injEq] at he
        rw [ih M' (fun x hx => h1 x (by simp [hx])) (fun x hx => h2 x (by simp [hx])) he.2]
        have : p = q := Prod.ext he.1 (by rw [h1 p (by simp), h2 q (by simp), he.1])
        rw [this]
  exact this L L' (fun p hp => (h.val p hp).1) (fun p hp => (h'.val p hp).1) hk
def pA : List Pay := [(3, 100), (5, 50), (3, 20)]
theorem occA (k : Int) : occE 3 (lF dP pA) k ↔ k = 3 ∨ k = 5 := by
  constructor
  · rintro ⟨i, hi, e⟩
    rcases (by omega : i = 0 ∨ i = 1 ∨ i = 2) with rfl | rfl | rfl
    · exact .inl e.symm
    · exact .inr e.symm
    · exact .inl e.symm
  · rintro (rfl | rfl)
    · exact ⟨0, by omega, rfl⟩
    · exact ⟨1, by omega, rfl⟩
theorem combA : CombR 3 (lF dP pA) [(3, 120), (5, 50)] := ⟨by decide, fun k => by rw [occA]; simp, fun p hp => by
  simp at hp
  rcases hp with rfl | rfl
  · exact ⟨by decide, by decide⟩
  · exact ⟨by decide, by decide⟩⟩
theorem sumA (k : Int) : sumE 3 (lF dP pA) k ≤ 170 := by
  show 0 + (if (3 : Int) = k then 100 else 0) + (if (5 : Int) = k then 50 else 0) + (if (3 : Int) = k then 20 else 0) ≤ 170
  split <;> split <;> omega
theorem argA {mem : List Row} {L : List Nat} {l : Nat} {s : RS} (hr : rowAt mem l = some ⟨s, false, 3, 2, fun a b => nthP [vi 3, vi 100, vi 5, vi 50, vi 3, vi 20] (a * 2 + b)⟩) (hs : s.live) (hL : l ∈ L) : ArgOk mem L (.lsl l 0 3) (vPs 3 (lF dP pA)) := by
  refine argLsl (r := ⟨s, false, 3, 2, _⟩) hr hs hL (Nat.le_refl 3) fun a ha b hb => ?_
  have hb : b < 2 := hb
  rcases (by omega : a = 0 ∨ a = 1 ∨ a = 2) with rfl | rfl | rfl <;> rcases (by omega : b = 0 ∨ b = 1) with rfl | rfl <;> exact ⟨rfl, trivial⟩
theorem awake39_c (C : KeysSorted G.P 29 28 36 56 3) : PureC G.P 15 [] (fun r => r = vb true) := by
  have h1 := of_c 3 (lF dP pA) (by omega)
  have e1 : ofS 3 (lF dP pA) = ((3, 170, 11), 0) := by decide +kernel
  rw [e1] at h1
  have h2 : PureC G.P 12 [vPs 3 (lF dP pA)] (fun r => r = .tup 2 (nthP [vPs 2 (lF dP [(3, 120), (5, 50)]), vi 0])) := (comb_c C 3 (lF dP pA) (by omega)).mono (by
    rintro r ⟨L, e, rfl, hL⟩
    rcases hL with ⟨h, _⟩ | ⟨_, ⟨rfl, h⟩ | ⟨_, _, k, h⟩⟩
    · rw [e1] at h; exact absurd rfl h
    · rw [h.uniq combA]; rfl
    · have := sumA k; omega)
  refine pure_of (G := G.toPg) (fn := Try.f15) Try.func15 rfl rfl rfl ?_; intro Γ hk
  repeat' (first | refine xo 4000 rfl ?_ ?_ | refine xw 4000 rfl ?_ ?_ | refine xk 4000 rfl ?_ ?_ | exact trivial | ((with_reducible (show AllP (_ :: _))); refine And.intro ?_ ?_) | refine xs rfl ?_ ?_ | refine xs_done ?_ | refine pcond_t rfl ?_ | refine pcond_f rfl ?_ | refine kround_exit ?_ | refine kround_ret ?_ | refine kround_next ?_ | refine kloop_ret ?_ | refine kloop_exit ?_ | refine kcut_ret ?_ | refine kcut_exit ?_ | refine xo0 4000 rfl ?_ ?_ | refine xw0 4000 rfl ?_ ?_ | exact qq | fail)
  refine pop_callc [0] rfl rfl rfl rfl rfl rfl (by intro l hl; rw [hk]; exact Nat.zero_le _) h1 ⟨argA rfl trivial (List.Mem.head _), trivial⟩ ?_
  rintro _ rfl
  repeat' (first | refine xo 4000 rfl ?_ ?_ | refine xw 4000 rfl ?_ ?_ | refine xk 4000 rfl ?_ ?_ | exact trivial | ((with_reducible (show AllP (_ :: _))); refine And.intro ?_ ?_) | refine xs rfl ?_ ?_ | refine xs_done ?_ | refine pcond_t rfl ?_ | refine pcond_f rfl ?_ | refine kround_exit ?_ | refine kround_ret ?_ | refine kround_next ?_ | refine kloop_ret ?_ | refine kloop_exit ?_ | refine kcut_ret ?_ | refine kcut_exit ?_ | refine xo0 4000 rfl ?_ ?_ | refine xw0 4000 rfl ?_ ?_ | exact qq | fail)
  refine pop_callc [0] rfl rfl rfl rfl rfl rfl (by intro l hl; rw [hk]; exact Nat.zero_le _) h2 ⟨argA rfl trivial (List.Mem.head _), trivial⟩ ?_
  rintro _ rfl
  repeat' (first | refine xo 4000 rfl ?_ ?_ | refine xw 4000 rfl ?_ ?_ | refine xk 4000 rfl ?_ ?_ | exact trivial | ((with_reducible (show AllP (_ :: _))); refine And.intro ?_ ?_) | refine xs rfl ?_ ?_ | refine xs_done ?_ | refine pcond_t rfl ?_ | refine pcond_f rfl ?_ | refine kround_exit ?_ | refine kround_ret ?_ | refine kround_next ?_ | refine kloop_ret ?_ | refine kloop_exit ?_ | refine kcut_ret ?_ | refine kcut_exit ?_ | refine xo0 4000 rfl ?_ ?_ | refine xw0 4000 rfl ?_ ?_ | exact qq | fail)
  refine kretv rfl ⟨trivial, trivial⟩ rfl (eqB ?_)
  rfl
/-- a list of valid payments -/
def PLs (k : Nat) (l : List Pay) : Prop := l.length ≤ k ∧ ∀ p, p ∈ l → payOk p = true
theorem PLs.at {k : Nat} {l : List Pay} (h : PLs k l) {i : Nat} (hi : i < l.length) : payOk (lF dP l i) = true := by
  have e : lF dP l i = l[i] := by unfold lF; rw [List.getD_eq_getElem?_getD, List.getElem?_eq_getElem hi]; rfl
  rw [e]; exact h.2 _ (List.getElem_mem hi)
set_option maxHeartbeats 1000000 in
theorem dpays_t (M : Nat) (hM : M ≤ 100) : DekC G.P 16 (1 + 4 * (M + 1)) [vi M] (fun r => ∃ l : List Pay, r = vPs l.length (lF dP l) ∧ PLs M l) := by
  intro n g a0 hn h1 h2
  have hw0 : IntKind.i64.wrap ((M : Int) + 1) = (M : Int) + 1 := w64 (by omega) (by omega)
  refine ptr_of (G := G.toPg) (fn := Try.f16) Try.func16 rfl rfl rfl ?_; intro Γ hk
  repeat' (first | refine xo 4000 rfl ?_ ?_ | refine xw 4000 rfl ?_ ?_ | refine xk 4000 rfl ?_ ?_ | exact trivial | ((with_reducible (show AllP (_ :: _))); refine And.intro ?_ ?_) | refine xs rfl ?_ ?_ | refine xs_done ?_ | refine pcond_t rfl ?_ | refine pcond_f rfl ?_ | refine kround_exit ?_ | refine kround_ret ?_ | refine kround_next ?_ | refine kloop_ret ?_ | refine kloop_exit ?_ | refine kcut_ret ?_ | refine kcut_exit ?_ | refine xo0 4000 rfl ?_ ?_ | refine xw0 4000 rfl ?_ ?_ | exact qq | fail)
  rw [hw0]
  repeat' (first | refine xo 4000 rfl ?_ ?_ | refine xw 4000 rfl ?_ ?_ | refine xk 4000 rfl ?_ ?_ | exact trivial | ((with_reducible (show AllP (_ :: _))); refine And.intro ?_ ?_) | refine xs rfl ?_ ?_ | refine xs_done ?_ | (refine pop_dek (G := G) rfl rfl rfl rfl rfl rfl rfl rfl (fun _ => rfl) (dnext_t _ (by omega) (by omega)) hn (by omega) (by omega) rfl rfl ?_; rintro at_ _ b1 b2 ⟨x, rfl, hx1, hx2⟩) | refine pcond_t rfl ?_ | refine pcond_f rfl ?_ | refine kround_exit ?_ | refine kround_ret ?_ | refine kround_next ?_ | refine kloop_ret ?_ | refine kloop_exit ?_ | refine kcut_ret ?_ | refine kcut_exit ?_ | refine xo0 4000 rfl ?_ ?_ | refine xw0 4000 rfl ?_ ?_ | exact qq | fail)
  obtain ⟨c0, hc0'⟩ : ∃ c0, c0 = x := ⟨_, rfl⟩
  rw [← hc0'] at hx1 hx2 ⊢
  refine pcan (can_virt (vRow cP 2 0 (lF dP [])) rfl) ?_
  refine pcan (st' := ⟨[(0, .ptr 0 0 0), (5, slP 0 1), (6, vi c0)], [tapeRow n g _, vRow cP 2 0 (lF dP [])]⟩) (can_rowsv [0,1] (k0_sel hk rfl) rfl (by (repeat (refine SelV.cons rfl rqq ?_)); exact SelV.nil) tmq) ?_
  refine ploop (fun q st => ∃ (at' c : Int) (k : Nat) (l : List Pay), 0 ≤ at' ∧ at' ≤ a0 + 1 + 4 * (M - c) ∧ 0 ≤ c ∧ c + k ≤ M ∧ l.length = k ∧ (∀ p, p ∈ l → payOk p = true) ∧ q = c.toNat ∧ st = ⟨[(0, .ptr 0 0 0), (5, slP k 1), (6, vi c)], [tapeRow n g at', vRow cP 2 k (lF dP l)]⟩) c0.toNat ⟨_, c0, 0, [], b1, by omega, by omega, by omega, rfl, by simp, rfl, rfl⟩ ?_
  clear b1 b2
  rintro _ _ ⟨at', c, k, l, b1, b2, hc0, hck, hlk, hl, rfl, rfl⟩
  repeat' (first | refine xo 4000 rfl ?_ ?_ | refine xw 4000 rfl ?_ ?_ | refine xk 4000 rfl ?_ ?_ | exact trivial | ((with_reducible (show AllP (_ :: _))); refine And.intro ?_ ?_) | refine xs rfl ?_ ?_ | refine xs_done ?_ | refine pcond_t rfl ?_ | refine pcond_f rfl ?_ | refine kround_exit ?_ | refine kround_ret ?_ | refine kround_next ?_ | refine kloop_ret ?_ | refine kloop_exit ?_ | refine kcut_ret ?_ | refine kcut_exit ?_ | refine xo0 4000 rfl ?_ ?_ | refine xw0 4000 rfl ?_ ?_ | exact qq | fail)
  refine pcond rfl ?_ ?_ <;> intro hc <;> simp at hc
  · have hw : IntKind.i64.wrap (c - 1) = c - 1 := w64 (by omega) (by omega)
    rcases k with _ | k
    · repeat' (first | refine xo 4000 rfl ?_ ?_ | refine xw 4000 rfl ?_ ?_ | refine xk 4000 rfl ?_ ?_ | exact trivial | ((with_reducible (show AllP (_ :: _))); refine And.intro ?_ ?_) | refine xs rfl ?_ ?_ | refine xs_done ?_ | (refine pop_dek (G := G) rfl rfl rfl rfl rfl rfl rfl rfl (fun _ => rfl) (dnext_t _ (by omega) (by omega)) hn (by omega) (by omega) rfl rfl ?_; rintro at_ _ b1 b2 ⟨x, rfl, hx1, hx2⟩) | (refine pop_dek (G := G) rfl rfl rfl rfl rfl rfl rfl rfl (fun _ => rfl) dsmall_t hn (by omega) (by omega) rfl rfl ?_; rintro at_ _ b1 b2 ⟨x, rfl, hx1, hx2⟩) | (refine pop_dekl (G := G) rfl rfl rfl rfl rfl rfl rfl rfl rfl rfl rfl (by omega) rfl (fun _ => rfl) rfl (dpick_t _ _ rfl (by decide) (by decide)) hn (by omega) (by omega) ?_; rintro at_ _ b1 b2 ⟨x, rfl, hx⟩; simp only [unL, List.mem_cons, List.not_mem_nil, or_false] at hx) | refine pcond_t rfl ?_ | refine pcond_f rfl ?_ | refine kround_exit ?_ | refine kround_ret ?_ | refine kround_next ?_ | refine kloop_ret ?_ | refine kloop_exit ?_ | refine kcut_ret ?_ | refine kcut_exit ?_ | refine xo0 4000 rfl ?_ ?_ | refine xw0 4000 rfl ?_ ?_ | exact qq | fail)
      rename_i em hem _ _ _ sm
      rw [hw]
      rw [w64 (n := 1 + sm) (by omega) (by omega)] at hx
      refine xdone ?_
      exact kloop_next (st' := ⟨[(0, .ptr 0 0 0), (5, slP (0 + 1) 1), (6, vi (c - 1))], [tapeRow n g _, vRow cP 2 (0 + 1) (lF dP (l ++ [(em, x)]))]⟩) (c - 1).toNat (can_rowsv [0, 5] (k0_sel hk rfl) rfl (.cons rfl (RowEq.cl (tape_cl _ _ _)) (.cons rfl rqq .nil)) tmq) (by omega) ⟨_, c - 1, 0 + 1, l ++ [(em, x)], b1, by omega, by omega, by omega, by rw [List.length_append, hlk]; rfl, fun p hp => by
        rcases List.mem_append.1 hp with hp | hp
        · exact hl p hp
        · simp at hp; subst hp; rw [payOk_iff]; simp only; omega, rfl, rfl⟩
    · repeat' (first | refine xo 4000 rfl ?_ ?_ | refine xw 4000 rfl ?_ ?_ | refine xk 4000 rfl ?_ ?_ | exact trivial | ((with_reducible (show AllP (_ :: _))); refine And.intro ?_ ?_) | refine xs rfl ?_ ?_ | refine xs_done ?_ | (refine pop_dek (G := G) rfl rfl rfl rfl rfl rfl rfl rfl (fun _ => rfl) (dnext_t _ (by omega) (by omega)) hn (by omega) (by omega) rfl rfl ?_; rintro at_ _ b1 b2 ⟨x, rfl, hx1, hx2⟩) | (refine pop_dek (G := G) rfl rfl rfl rfl rfl rfl rfl rfl (fun _ => rfl) dsmall_t hn (by omega) (by omega) rfl rfl ?_; rintro at_ _ b1 b2 ⟨x, rfl, hx1, hx2⟩) | (refine pop_dekl (G := G) rfl rfl rfl rfl rfl rfl rfl rfl rfl rfl rfl (by omega) rfl (fun _ => rfl) rfl (dpick_t _ _ rfl (by decide) (by decide)) hn (by omega) (by omega) ?_; rintro at_ _ b1 b2 ⟨x, rfl, hx⟩; simp only [unL, List.mem_cons, List.not_mem_nil, or_false] at hx) | refine pcond_t rfl ?_ | refine pcond_f rfl ?_ | refine kround_exit ?_ | refine kround_ret ?_ | refine kround_next ?_ | refine kloop_ret ?_ | refine kloop_exit ?_ | refine kcut_ret ?_ | refine kcut_exit ?_ | refine xo0 4000 rfl ?_ ?_ | refine xw0 4000 rfl ?_ ?_ | exact qq | fail)
      rename_i em hem _ _ _ sm
      rw [hw]
      rw [w64 (n := 1 + sm) (by omega) (by omega)] at hx
      refine xdone ?_
      exact kloop_next (st' := ⟨[(0, .ptr 0 0 0), (5, slP (k + 1 + 1) 1), (6, vi (c - 1))], [tapeRow n g _, vRow cP 2 (k + 1 + 1) (lF dP (l ++ [(em, x)]))]⟩) (c - 1).toNat (can_rowsv [0, 5] (k0_sel hk rfl) rfl (.cons rfl (RowEq.cl (tape_cl _ _ _)) (.cons rfl rqq .nil)) tmq) (by omega) ⟨_, c - 1, k + 1 + 1, l ++ [(em, x)], b1, by omega, by omega, by omega, by rw [List.length_append, hlk]; rfl, fun p hp => by
        rcases List.mem_append.1 hp with hp | hp
        · exact hl p hp
        · simp at hp; subst hp; rw [payOk_iff]; simp only; omega, rfl, rfl⟩
  · have hc00 : c = 0 := by omega
    subst hc00
    rcases k with _ | k
    · repeat' (first | refine xo 4000 rfl ?_ ?_ | refine xw 4000 rfl ?_ ?_ | refine xk 4000 rfl ?_ ?_ | exact trivial | ((with_reducible (show AllP (_ :: _))); refine And.intro ?_ ?_) | refine xs rfl ?_ ?_ | refine xs_done ?_ | refine pcond_t rfl ?_ | refine pcond_f rfl ?_ | refine kround_exit ?_ | refine kround_ret ?_ | refine kround_next ?_ | refine kloop_ret ?_ | refine kloop_exit ?_ | refine kcut_ret ?_ | refine kcut_exit ?_ | refine xo0 4000 rfl ?_ ?_ | refine xw0 4000 rfl ?_ ?_ | exact qq | fail)
      refine xdone ?_
      have : l = [] := List.length_eq_zero_iff.1 hlk
      subst this
      exact kdekL [] (qs := [vPs 0 (lF dP [])]) rfl b1 (by omega) (by simp) rfl ⟨trivial, trivial⟩ ⟨argNil, trivial⟩ ⟨[], rfl, ⟨by simp, hl⟩⟩
    · repeat' (first | refine xo 4000 rfl ?_ ?_ | refine xw 4000 rfl ?_ ?_ | refine xk 4000 rfl ?_ ?_ | exact trivial | ((with_reducible (show AllP (_ :: _))); refine And.intro ?_ ?_) | refine xs rfl ?_ ?_ | refine xs_done ?_ | refine pcond_t rfl ?_ | refine pcond_f rfl ?_ | refine kround_exit ?_ | refine kround_ret ?_ | refine kround_next ?_ | refine kloop_ret ?_ | refine kloop_exit ?_ | refine kcut_ret ?_ | refine kcut_exit ?_ | refine xo0 4000 rfl ?_ ?_ | refine xw0 4000 rfl ?_ ?_ | exact qq | fail)
      refine xdone ?_
      refine kdekL [1] (qs := [vPs (k + 1) (lF dP l)]) rfl b1 (by omega) (by simp) rfl ⟨trivial, trivial⟩ ⟨arg_o (s := .own) cP_cl rfl trivial (List.Mem.head _), trivial⟩ ⟨l, by rw [hlk]; rfl, ⟨by omega, hl⟩⟩
end Go.Proofs.Ytnjikclflfioeaa
