/- The library's symMerge. -/
import Derived.Test.YtppjjhnaahgmhaaSym4
set_option linter.unusedSimpArgs false
set_option linter.unusedVariables false
set_option maxRecDepth 100000
namespace Go.Proofs.Ytppjjhnaahgmhaa
set_option maxHeartbeats 4000000 in
theorem sym_step (F : FuncId) (cap : PV) (hcap : clB cap = true) (key : Nat → Int) (N : Nat) (hN : N ≤ 1000000) (P A B S : List Nat) (hA1 : 1 < A.length) (hB1 : 1 < B.length) (hA : A.Pairwise (RB key)) (hB : B.Pairwise (RB key)) (hlt : ∀ x, x ∈ A → ∀ y, y ∈ B → x < y) (hcmp : CmpC F cap key (A ++ B)) (hn : (P ++ (A ++ (B ++ S))).length = N)
    (ih : ∀ (P' A' B' S' : List Nat), A'.length + B'.length < A.length + B.length → 0 < A'.length → 0 < B'.length → A'.Pairwise (RB key) → B'.Pairwise (RB key) → (∀ x, x ∈ A' → ∀ y, y ∈ B' → x < y) → CmpC F cap key (A' ++ B') → (P' ++ (A' ++ (B' ++ S'))).length = N → SymC F cap key N P' A' B' S') : SymC F cap key N P A B S := by
  have hclo : Cl (.clo F 1 (fun _ => cap)) := fun _ _ => clB_spec cap hcap
  have hlen := hn
  simp only [List.length_append] at hlen
  obtain ⟨L, hL⟩ : ∃ L, L = P ++ (A ++ (B ++ S)) := ⟨_, rfl⟩
  unfold SymC
  rw [← hL]
  obtain ⟨a, ha⟩ : ∃ a, a = P.length := ⟨_, rfl⟩
  obtain ⟨m, hm⟩ : ∃ m, m = a + A.length := ⟨_, rfl⟩
  obtain ⟨b, hb⟩ : ∃ b, b = m + B.length := ⟨_, rfl⟩
  rw [← ha, ← hm, ← hb]
  obtain ⟨mid, hmid⟩ : ∃ mid, mid = (a + b) / 2 := ⟨_, rfl⟩
  have hw1 : IntKind.i64.wrap ((m : Int) - (a : Int)) = (m : Int) - a := w64 (by omega) (by omega)
  have hw2 : IntKind.i64.wrap ((b : Int) - (m : Int)) = (b : Int) - m := w64 (by omega) (by omega)
  have hh : IntKind.i64.wrap ((IntKind.u64.wrap (IntKind.i64.wrap ((a : Int) + (b : Int)))).fdiv (2 ^ min (Int.toNat 1) IntKind.u64.bits)) = (mid : Int) := by rw [half (by omega), hmid]
  have hw3 : IntKind.i64.wrap ((mid : Int) + (m : Int)) = ((mid + m : Nat) : Int) := by rw [w64 (by omega) (by omega)]; omega
  have hw4 : IntKind.i64.wrap (((mid + m : Nat) : Int) - (b : Int)) = ((mid + m : Nat) : Int) - b := w64 (by omega) (by omega)
  have hw5 : IntKind.i64.wrap (((mid + m : Nat) : Int) - 1) = ((mid + m - 1 : Nat) : Int) := by rw [w64 (by omega) (by omega)]; omega
  refine rows_of (G := G.toPg) (fn := Try.f62) Try.func62 rfl rfl rfl ?_; intro Γ hk
  repeat' (first | refine xo 4000 rfl ?_ ?_ | refine xw 4000 rfl ?_ ?_ | refine xk 4000 rfl ?_ ?_ | exact trivial | ((with_reducible (show AllP (_ :: _))); refine And.intro ?_ ?_) | refine xs rfl ?_ ?_ | refine xs_done ?_ | refine pcond_t rfl ?_ | refine pcond_f rfl ?_ | refine kround_exit ?_ | refine kround_ret ?_ | refine kround_next ?_ | refine kloop_ret ?_ | refine kloop_exit ?_ | refine kcut_ret ?_ | refine kcut_exit ?_ | refine xo0 4000 rfl ?_ ?_ | refine xw0 4000 rfl ?_ ?_ | exact qq | fail)
  rw [hw1]
  refine pcond (b := false) ?_ ?_ ?_
  · refine eqB ?_; simp; omega
  · intro h; cases h
  intro _
  repeat' (first | refine xo 4000 rfl ?_ ?_ | refine xw 4000 rfl ?_ ?_ | refine xk 4000 rfl ?_ ?_ | exact trivial | ((with_reducible (show AllP (_ :: _))); refine And.intro ?_ ?_) | refine xs rfl ?_ ?_ | refine xs_done ?_ | refine pcond_t rfl ?_ | refine pcond_f rfl ?_ | refine kround_exit ?_ | refine kround_ret ?_ | refine kround_next ?_ | refine kloop_ret ?_ | refine kloop_exit ?_ | refine kcut_ret ?_ | refine kcut_exit ?_ | refine xo0 4000 rfl ?_ ?_ | refine xw0 4000 rfl ?_ ?_ | exact qq | fail)
  rw [hw2]
  refine pcond (b := false) ?_ ?_ ?_
  · refine eqB ?_; simp; omega
  · intro h; cases h
  intro _
  repeat' (first | refine xo 4000 rfl ?_ ?_ | refine xw 4000 rfl ?_ ?_ | refine xk 4000 rfl ?_ ?_ | exact trivial | ((with_reducible (show AllP (_ :: _))); refine And.intro ?_ ?_) | refine xs rfl ?_ ?_ | refine xs_done ?_ | exact (show ¬ ((1 : Int) < 0) from by decide) | refine pcond_t rfl ?_ | refine pcond_f rfl ?_ | refine kround_exit ?_ | refine kround_ret ?_ | refine kround_next ?_ | refine kloop_ret ?_ | refine kloop_exit ?_ | refine kcut_ret ?_ | refine kcut_exit ?_ | refine xo0 4000 rfl ?_ ?_ | refine xw0 4000 rfl ?_ ?_ | exact qq | fail)
  rw [hh, hw3]
  obtain ⟨s0, hs0⟩ : ∃ s0, s0 = if mid < m then mid + m - b else a := ⟨_, rfl⟩
  obtain ⟨r0, hr0⟩ : ∃ r0, r0 = if mid < m then mid else m := ⟨_, rfl⟩
  have hsr : a ≤ s0 ∧ s0 ≤ r0 ∧ r0 ≤ m ∧ (∀ c, s0 ≤ c → c < r0 → m ≤ mid + m - 1 - c ∧ mid + m - 1 - c < b) := by
    rw [hs0, hr0]
    split
    · refine ⟨by omega, by omega, by omega, fun c h1 h2 => by omega⟩
    · refine ⟨by omega, by omega, by omega, fun c h1 h2 => by omega⟩
  refine pcut (fun st => st = ⟨[(0, .lsl 0 0 N), (1, vi a), (2, vi m), (3, vi b), (4, .clo F 1 (fun _ => cap)), (18, vi mid), (19, vi ((mid + m : Nat) : Int)), (20, vi (s0 : Nat)), (21, vi (r0 : Nat))], [iRow N (lN L)]⟩) ?_ ?_
  · refine pcond rfl ?_ ?_ <;> intro hc <;> simp at hc
    · have e1 : s0 = mid + m - b := by rw [hs0, if_pos hc]
      have e2 : r0 = mid := by rw [hr0, if_pos hc]
      have hw4' : IntKind.i64.wrap (((mid + m : Nat) : Int) - (b : Int)) = ((s0 : Nat) : Int) := by rw [hw4, e1]; omega
      repeat' (first | refine xo 4000 rfl ?_ ?_ | refine xw 4000 rfl ?_ ?_ | refine xk 4000 rfl ?_ ?_ | exact trivial | ((with_reducible (show AllP (_ :: _))); refine And.intro ?_ ?_) | refine xs rfl ?_ ?_ | refine xs_done ?_ | refine pcond_t rfl ?_ | refine pcond_f rfl ?_ | refine kround_exit ?_ | refine kround_ret ?_ | refine kround_next ?_ | refine kloop_ret ?_ | refine kloop_exit ?_ | refine kcut_ret ?_ | refine kcut_exit ?_ | refine xo0 4000 rfl ?_ ?_ | refine xw0 4000 rfl ?_ ?_ | exact qq | fail)
      rw [hw4']
      exact kcut (st' := ⟨[(0, .lsl 0 0 N), (1, vi a), (2, vi m), (3, vi b), (4, .clo F 1 (fun _ => cap)), (18, vi mid), (19, vi ((mid + m : Nat) : Int)), (20, vi (s0 : Nat)), (21, vi (r0 : Nat))], [iRow N (lN L)]⟩) (by rw [e2]; exact can_rowsv [0] (k0_sel hk rfl) rfl (.cons rfl rqq .nil) (by exact ⟨PEq.refl _, PEq.refl _, PEq.refl _, PEq.refl _, PEq.cl _ hclo, PEq.refl _, PEq.refl _, PEq.refl _, PEq.refl _, trivial⟩)) rfl
    · have e1 : s0 = a := by rw [hs0, if_neg (by omega)]
      have e2 : r0 = m := by rw [hr0, if_neg (by omega)]
      repeat' (first | refine xo 4000 rfl ?_ ?_ | refine xw 4000 rfl ?_ ?_ | refine xk 4000 rfl ?_ ?_ | exact trivial | ((with_reducible (show AllP (_ :: _))); refine And.intro ?_ ?_) | refine xs rfl ?_ ?_ | refine xs_done ?_ | refine pcond_t rfl ?_ | refine pcond_f rfl ?_ | refine kround_exit ?_ | refine kround_ret ?_ | refine kround_next ?_ | refine kloop_ret ?_ | refine kloop_exit ?_ | refine kcut_ret ?_ | refine kcut_exit ?_ | refine xo0 4000 rfl ?_ ?_ | refine xw0 4000 rfl ?_ ?_ | exact qq | fail)
      exact kcut (st' := ⟨[(0, .lsl 0 0 N), (1, vi a), (2, vi m), (3, vi b), (4, .clo F 1 (fun _ => cap)), (18, vi mid), (19, vi ((mid + m : Nat) : Int)), (20, vi (s0 : Nat)), (21, vi (r0 : Nat))], [iRow N (lN L)]⟩) (by rw [e1, e2]; exact can_rowsv [0] (k0_sel hk rfl) rfl (.cons rfl rqq .nil) (by exact ⟨PEq.refl _, PEq.refl _, PEq.refl _, PEq.refl _, PEq.cl _ hclo, PEq.refl _, PEq.refl _, PEq.refl _, PEq.refl _, trivial⟩)) rfl
  rintro _ rfl
  obtain ⟨q1, q2, q3, q4⟩ := hsr
  have hs0' : s0 = a ∨ mid + m - s0 = b := by rw [hs0]; split <;> omega
  have hr0' : r0 = mid ∨ r0 = m := by rw [hr0]; split <;> omega
  have hr0m : r0 ≤ mid := by rw [hr0]; split <;> omega
  have hsb : mid + m ≤ b + s0 := by rw [hs0]; split <;> omega
  have hmab : a < mid ∧ mid < b := by omega
  obtain ⟨p, hp⟩ : ∃ p, p = mid + m - 1 := ⟨_, rfl⟩
  rw [← hp] at hw5 q4
  have hLA : ∀ c, a ≤ c → c < m → L.getD c 0 = A.getD (c - a) 0 := fun c h1 h2 => by
    rw [hL, gapp, if_neg (by omega), gapp, if_pos (by omega)]
    congr 1; omega
  have hLB : ∀ c, m ≤ c → c < b → L.getD c 0 = B.getD (c - m) 0 := fun c h1 h2 => by
    rw [hL, gapp, if_neg (by omega), gapp, if_neg (by omega), gapp, if_pos (by omega)]
    congr 1; omega
  repeat' (first | refine xo 4000 rfl ?_ ?_ | refine xw 4000 rfl ?_ ?_ | refine xk 4000 rfl ?_ ?_ | exact trivial | ((with_reducible (show AllP (_ :: _))); refine And.intro ?_ ?_) | refine xs rfl ?_ ?_ | refine xs_done ?_ | refine pcond_t rfl ?_ | refine pcond_f rfl ?_ | refine kround_exit ?_ | refine kround_ret ?_ | refine kround_next ?_ | refine kloop_ret ?_ | refine kloop_exit ?_ | refine kcut_ret ?_ | refine kcut_exit ?_ | refine xo0 4000 rfl ?_ ?_ | refine xw0 4000 rfl ?_ ?_ | exact qq | fail)
  rw [hw5]
  refine pcan (st' := ⟨[(0, .lsl 0 0 N), (1, vi a), (2, vi m), (3, vi b), (4, .clo F 1 (fun _ => cap)), (18, vi mid), (19, vi ((mid + m : Nat) : Int)), (20, vi (s0 : Nat)), (21, vi (r0 : Nat)), (22, vi (p : Nat))], [iRow N (lN L)]⟩) (can_rowsv [0] (k0_sel hk rfl) rfl (.cons rfl rqq .nil) (by exact ⟨PEq.refl _, PEq.refl _, PEq.refl _, PEq.refl _, PEq.cl _ hclo, PEq.refl _, PEq.refl _, PEq.refl _, PEq.refl _, PEq.refl _, trivial⟩)) ?_
  refine ploop (fun q st => ∃ (s r : Nat), s0 ≤ s ∧ s ≤ r ∧ r ≤ r0 ∧ (s = s0 ∨ ¬ key (L.getD (p - (s - 1)) 0) < key (L.getD (s - 1) 0)) ∧ (r = r0 ∨ key (L.getD (p - r) 0) < key (L.getD r 0)) ∧ q = r - s ∧ st = ⟨[(0, .lsl 0 0 N), (1, vi a), (2, vi m), (3, vi b), (4, .clo F 1 (fun _ => cap)), (18, vi mid), (19, vi ((mid + m : Nat) : Int)), (20, vi (s : Nat)), (21, vi (r : Nat)), (22, vi (p : Nat))], [iRow N (lN L)]⟩) (r0 - s0) ⟨s0, r0, by omega, by omega, by omega, .inl rfl, .inl rfl, rfl, rfl⟩ ?_
  rintro _ _ ⟨s, r, hs1, hs2, hs3, h1, h2, rfl, rfl⟩
  repeat' (first | refine xo 4000 rfl ?_ ?_ | refine xw 4000 rfl ?_ ?_ | refine xk 4000 rfl ?_ ?_ | exact trivial | ((with_reducible (show AllP (_ :: _))); refine And.intro ?_ ?_) | refine xs rfl ?_ ?_ | refine xs_done ?_ | refine pcond_t rfl ?_ | refine pcond_f rfl ?_ | refine kround_exit ?_ | refine kround_ret ?_ | refine kround_next ?_ | refine kloop_ret ?_ | refine kloop_exit ?_ | refine kcut_ret ?_ | refine kcut_exit ?_ | refine xo0 4000 rfl ?_ ?_ | refine xw0 4000 rfl ?_ ?_ | exact qq | fail)
  refine pcond rfl ?_ ?_ <;> intro hc <;> simp at hc
  · obtain ⟨c, hcd⟩ : ∃ c, c = (s + r) / 2 := ⟨_, rfl⟩
    have hcb : s ≤ c ∧ c < r := by omega
    have hmd : IntKind.i64.wrap ((IntKind.u64.wrap (IntKind.i64.wrap ((s : Int) + (r : Int)))).fdiv (2 ^ min (Int.toNat 1) IntKind.u64.bits)) = (c : Int) := by
      rw [half (by omega), hcd]
    obtain ⟨q5, q6⟩ := q4 c (by omega) (by omega)
    have hm1 : L.getD (p - c) 0 ∈ A ++ B := by rw [hLB _ q5 q6]; exact List.mem_append_right _ (getD_mem (by omega))
    have hm2 : L.getD c 0 ∈ A ++ B := by rw [hLA _ (by omega) (by omega)]; exact List.mem_append_left _ (getD_mem (by omega))
    have hcc := hcmp _ hm1 _ hm2
    repeat' (first | refine xo 4000 rfl ?_ ?_ | refine xw 4000 rfl ?_ ?_ | refine xk 4000 rfl ?_ ?_ | exact trivial | ((with_reducible (show AllP (_ :: _))); refine And.intro ?_ ?_) | refine xs rfl ?_ ?_ | refine xs_done ?_ | exact (show ¬ ((1 : Int) < 0) from by decide) | refine pcond_t rfl ?_ | refine pcond_f rfl ?_ | refine kround_exit ?_ | refine kround_ret ?_ | refine kround_next ?_ | refine kloop_ret ?_ | refine kloop_exit ?_ | refine kcut_ret ?_ | refine kcut_exit ?_ | refine xo0 4000 rfl ?_ ?_ | refine xw0 4000 rfl ?_ ?_ | exact qq | fail)
    rw [hmd]
    refine pcan (st' := ⟨[(0, .lsl 0 0 N), (1, vi a), (2, vi m), (3, vi b), (4, .clo F 1 (fun _ => cap)), (18, vi mid), (19, vi ((mid + m : Nat) : Int)), (20, vi (s : Nat)), (21, vi (r : Nat)), (22, vi (p : Nat)), (23, vi (c : Nat))], [iRow N (lN L)]⟩) (can_rowsv [0] (k0_sel hk rfl) rfl (.cons rfl rqq .nil) (by exact ⟨PEq.refl _, PEq.refl _, PEq.refl _, PEq.refl _, PEq.cl _ hclo, PEq.refl _, PEq.refl _, PEq.refl _, PEq.refl _, PEq.refl _, PEq.refl _, trivial⟩)) ?_
    have hwp : IntKind.i64.wrap ((p : Int) - (c : Int)) = ((p - c : Nat) : Int) := by rw [w64 (by omega) (by omega)]; omega
    have e1 : 0 + (IntKind.i64.wrap ((p : Int) - (c : Int))).toNat = p - c := by rw [hwp]; omega
    have e2 : 0 + (c : Int).toNat = c := by omega
    (refine any_start [0] 14 rfl ?_); (first | refine any_take 0 rfl (by kernel_rfl) (by kernel_rfl) (by kernel_rfl) rfl rfl rfl rfl rfl qtk ?_ | refine any_take2 0 rfl (by kernel_rfl) (by kernel_rfl) (by kernel_rfl) rfl rfl rfl rfl trivial ?_ | (refine any_take 0 rfl (by kernel_rfl) (by kernel_rfl) (by kernel_rfl) rfl rfl rfl rfl rfl ?_ ?_; rotate_left)); (first | refine any_take 1 rfl (by kernel_rfl) (by kernel_rfl) (by kernel_rfl) rfl rfl rfl rfl rfl qtk ?_ | refine any_take2 1 rfl (by kernel_rfl) (by kernel_rfl) (by kernel_rfl) rfl rfl rfl rfl trivial ?_ | (refine any_take 1 rfl (by kernel_rfl) (by kernel_rfl) (by kernel_rfl) rfl rfl rfl rfl rfl ?_ ?_; rotate_left)); (first | refine any_take 2 rfl (by kernel_rfl) (by kernel_rfl) (by kernel_rfl) rfl rfl rfl rfl rfl qtk ?_ | refine any_take2 2 rfl (by kernel_rfl) (by kernel_rfl) (by kernel_rfl) rfl rfl rfl rfl trivial ?_ | (refine any_take 2 rfl (by kernel_rfl) (by kernel_rfl) (by kernel_rfl) rfl rfl rfl rfl rfl ?_ ?_; rotate_left)); (first | refine any_take 3 rfl (by kernel_rfl) (by kernel_rfl) (by kernel_rfl) rfl rfl rfl rfl rfl qtk ?_ | refine any_take2 3 rfl (by kernel_rfl) (by kernel_rfl) (by kernel_rfl) rfl rfl rfl rfl trivial ?_ | (refine any_take 3 rfl (by kernel_rfl) (by kernel_rfl) (by kernel_rfl) rfl rfl rfl rfl rfl ?_ ?_; rotate_left)); (first | refine any_take 4 rfl (by kernel_rfl) (by kernel_rfl) (by kernel_rfl) rfl rfl rfl rfl rfl qtk ?_ | refine any_take2 4 rfl (by kernel_rfl) (by kernel_rfl) (by kernel_rfl) rfl rfl rfl rfl trivial ?_ | (refine any_take 4 rfl (by kernel_rfl) (by kernel_rfl) (by kernel_rfl) rfl rfl rfl rfl rfl ?_ ?_; rotate_left)); (first | refine any_take 5 rfl (by kernel_rfl) (by kernel_rfl) (by kernel_rfl) rfl rfl rfl rfl rfl qtk ?_ | refine any_take2 5 rfl (by kernel_rfl) (by kernel_rfl) (by kernel_rfl) rfl rfl rfl rfl trivial ?_ | (refine any_take 5 rfl (by kernel_rfl) (by kernel_rfl) (by kernel_rfl) rfl rfl rfl rfl rfl ?_ ?_; rotate_left)); (first | refine any_take 6 rfl (by kernel_rfl) (by kernel_rfl) (by kernel_rfl) rfl rfl rfl rfl rfl qtk ?_ | refine any_take2 6 rfl (by kernel_rfl) (by kernel_rfl) (by kernel_rfl) rfl rfl rfl rfl trivial ?_ | (refine any_take 6 rfl (by kernel_rfl) (by kernel_rfl) (by kernel_rfl) rfl rfl rfl rfl rfl ?_ ?_; rotate_left)); (first | refine any_take 7 rfl (by kernel_rfl) (by kernel_rfl) (by kernel_rfl) rfl rfl rfl rfl rfl qtk ?_ | refine any_take2 7 rfl (by kernel_rfl) (by kernel_rfl) (by kernel_rfl) rfl rfl rfl rfl trivial ?_ | (refine any_take 7 rfl (by kernel_rfl) (by kernel_rfl) (by kernel_rfl) rfl rfl rfl rfl rfl ?_ ?_; rotate_left)); (first | refine any_take 8 rfl (by kernel_rfl) (by kernel_rfl) (by kernel_rfl) rfl rfl rfl rfl rfl qtk ?_ | refine any_take2 8 rfl (by kernel_rfl) (by kernel_rfl) (by kernel_rfl) rfl rfl rfl rfl trivial ?_ | (refine any_take 8 rfl (by kernel_rfl) (by kernel_rfl) (by kernel_rfl) rfl rfl rfl rfl rfl ?_ ?_; rotate_left)); (first | refine any_take 9 rfl (by kernel_rfl) (by kernel_rfl) (by kernel_rfl) rfl rfl rfl rfl rfl qtk ?_ | refine any_take2 9 rfl (by kernel_rfl) (by kernel_rfl) (by kernel_rfl) rfl rfl rfl rfl trivial ?_ | (refine any_take 9 rfl (by kernel_rfl) (by kernel_rfl) (by kernel_rfl) rfl rfl rfl rfl rfl ?_ ?_; rotate_left)); (first | refine any_take 10 rfl (by kernel_rfl) (by kernel_rfl) (by kernel_rfl) rfl rfl rfl rfl rfl qtk ?_ | refine any_take2 10 rfl (by kernel_rfl) (by kernel_rfl) (by kernel_rfl) rfl rfl rfl rfl trivial ?_ | (refine any_take 10 rfl (by kernel_rfl) (by kernel_rfl) (by kernel_rfl) rfl rfl rfl rfl rfl ?_ ?_; rotate_left)); (refine any_one 11 rfl (by kernel_rfl) (ch := []) rfl rfl (pst_rowsc [] rfl rfl rfl rfl rfl rfl .nil (pure_rows hcc) (by exact ⟨PEq.of (by show vi (lN L (0 + (IntKind.i64.wrap ((p : Int) - (c : Int))).toNat)) = _; rw [e1, lN_eq]), PEq.of (by show vi (lN L (0 + (c : Int).toNat)) = _; rw [e2, lN_eq]), PEq.cl _ (clB_spec cap hcap), trivial⟩) ?_)); (rintro r rows ⟨rfl, rfl⟩; refine ⟨_, _, rfl, trivial, rfl, ?_⟩); (first | refine any_take 12 rfl (by kernel_rfl) (by kernel_rfl) (by kernel_rfl) rfl rfl rfl rfl rfl qtk ?_ | refine any_take2 12 rfl (by kernel_rfl) (by kernel_rfl) (by kernel_rfl) rfl rfl rfl rfl trivial ?_ | (refine any_take 12 rfl (by kernel_rfl) (by kernel_rfl) (by kernel_rfl) rfl rfl rfl rfl rfl ?_ ?_; rotate_left)); (first | refine any_take 13 rfl (by kernel_rfl) (by kernel_rfl) (by kernel_rfl) rfl rfl rfl rfl rfl qtk ?_ | refine any_take2 13 rfl (by kernel_rfl) (by kernel_rfl) (by kernel_rfl) rfl rfl rfl rfl trivial ?_ | (refine any_take 13 rfl (by kernel_rfl) (by kernel_rfl) (by kernel_rfl) rfl rfl rfl rfl rfl ?_ ?_; rotate_left)); (refine any_done (by kernel_rfl) ?_)
    rotate_left
    · exact (show 0 + (IntKind.i64.wrap ((p : Int) - (c : Int))).toNat < N from by omega)
    · exact (show 0 + (c : Int).toNat < N from by omega)
    have hw7 : IntKind.i64.wrap ((c : Int) + 1) = ((c + 1 : Nat) : Int) := by rw [w64 (by omega) (by omega)]; omega
    repeat' (first | refine xo 4000 rfl ?_ ?_ | refine xw 4000 rfl ?_ ?_ | refine xk 4000 rfl ?_ ?_ | exact trivial | ((with_reducible (show AllP (_ :: _))); refine And.intro ?_ ?_) | refine xs rfl ?_ ?_ | refine xs_done ?_ | refine pcond_t rfl ?_ | refine pcond_f rfl ?_ | refine kround_exit ?_ | refine kround_ret ?_ | refine kround_next ?_ | refine kloop_ret ?_ | refine kloop_exit ?_ | refine kcut_ret ?_ | refine kcut_exit ?_ | refine xo0 4000 rfl ?_ ?_ | refine xw0 4000 rfl ?_ ?_ | exact qq | fail)
    refine pcond rfl ?_ ?_ <;> intro hc2
    · have hk2 : ¬ key (L.getD (p - c) 0) < key (L.getD c 0) := by
        have hc2 : (!decide (cmpS (key (L.getD (p - c) 0)) (key (L.getD c 0)) < 0)) = true := hc2
        rw [cmpS_neg] at hc2; simpa using hc2
      repeat' (first | refine xo 4000 rfl ?_ ?_ | refine xw 4000 rfl ?_ ?_ | refine xk 4000 rfl ?_ ?_ | exact trivial | ((with_reducible (show AllP (_ :: _))); refine And.intro ?_ ?_) | refine xs rfl ?_ ?_ | refine xs_done ?_ | refine pcond_t rfl ?_ | refine pcond_f rfl ?_ | refine kround_exit ?_ | refine kround_ret ?_ | refine kround_next ?_ | refine kloop_ret ?_ | refine kloop_exit ?_ | refine kcut_ret ?_ | refine kcut_exit ?_ | refine xo0 4000 rfl ?_ ?_ | refine xw0 4000 rfl ?_ ?_ | exact qq | fail)
      rw [hw7]
      exact kloop_next (st' := ⟨[(0, .lsl 0 0 N), (1, vi a), (2, vi m), (3, vi b), (4, .clo F 1 (fun _ => cap)), (18, vi mid), (19, vi ((mid + m : Nat) : Int)), (20, vi ((c + 1 : Nat) : Int)), (21, vi (r : Nat)), (22, vi (p : Nat))], [iRow N (lN L)]⟩) (r - (c + 1)) (can_rowsv [0] (k0_sel hk rfl) rfl (.cons rfl rqq .nil) (by exact ⟨PEq.refl _, PEq.refl _, PEq.refl _, PEq.refl _, PEq.cl _ hclo, PEq.refl _, PEq.refl _, PEq.refl _, PEq.refl _, PEq.refl _, trivial⟩)) (by omega) ⟨c + 1, r, by omega, by omega, hs3, .inr hk2, h2, rfl, rfl⟩
    · have hk2 : key (L.getD (p - c) 0) < key (L.getD c 0) := by
        have hc2 : (!decide (cmpS (key (L.getD (p - c) 0)) (key (L.getD c 0)) < 0)) = false := hc2
        rw [cmpS_neg] at hc2; simpa using hc2
      repeat' (first | refine xo 4000 rfl ?_ ?_ | refine xw 4000 rfl ?_ ?_ | refine xk 4000 rfl ?_ ?_ | exact trivial | ((with_reducible (show AllP (_ :: _))); refine And.intro ?_ ?_) | refine xs rfl ?_ ?_ | refine xs_done ?_ | refine pcond_t rfl ?_ | refine pcond_f rfl ?_ | refine kround_exit ?_ | refine kround_ret ?_ | refine kround_next ?_ | refine kloop_ret ?_ | refine kloop_exit ?_ | refine kcut_ret ?_ | refine kcut_exit ?_ | refine xo0 4000 rfl ?_ ?_ | refine xw0 4000 rfl ?_ ?_ | exact qq | fail)
      exact kloop_next (st' := ⟨[(0, .lsl 0 0 N), (1, vi a), (2, vi m), (3, vi b), (4, .clo F 1 (fun _ => cap)), (18, vi mid), (19, vi ((mid + m : Nat) : Int)), (20, vi (s : Nat)), (21, vi (c : Nat)), (22, vi (p : Nat))], [iRow N (lN L)]⟩) (c - s) (can_rowsv [0] (k0_sel hk rfl) rfl (.cons rfl rqq .nil) (by exact ⟨PEq.refl _, PEq.refl _, PEq.refl _, PEq.refl _, PEq.cl _ hclo, PEq.refl _, PEq.refl _, PEq.refl _, PEq.refl _, PEq.refl _, trivial⟩)) (by omega) ⟨s, c, by omega, by omega, by omega, h1, .inr hk2, rfl, rfl⟩
  · obtain rfl : s = r := by omega
    obtain ⟨i, hi⟩ : ∃ i, i = s - a := ⟨_, rfl⟩
    obtain ⟨e, he⟩ : ∃ e, e = mid - s := ⟨_, rfl⟩
    obtain ⟨A1, hA1d⟩ : ∃ A1, A1 = A.take i := ⟨_, rfl⟩
    obtain ⟨A2, hA2d⟩ : ∃ A2, A2 = A.drop i := ⟨_, rfl⟩
    obtain ⟨B1, hB1d⟩ : ∃ B1, B1 = B.take e := ⟨_, rfl⟩
    obtain ⟨B2, hB2d⟩ : ∃ B2, B2 = B.drop e := ⟨_, rfl⟩
    have lA1 : A1.length = i := by rw [hA1d, List.length_take]; omega
    have lA2 : A2.length = m - s := by rw [hA2d, List.length_drop]; omega
    have lB1 : B1.length = e := by rw [hB1d, List.length_take]; omega
    have lB2 : B2.length = B.length - e := by rw [hB2d, List.length_drop]
    have eA : A1 ++ A2 = A := by rw [hA1d, hA2d]; exact List.take_append_drop _ _
    have eB : B1 ++ B2 = B := by rw [hB1d, hB2d]; exact List.take_append_drop _ _
    have x12 : ∀ x, x ∈ A1 → ∀ y, y ∈ B2 → RB key x y := by
      rw [hA1d, hB2d]
      refine cross hA hB (by omega) ?_
      by_cases hss : s = s0
      · rcases hs0' with h | h
        · exact .inl (by omega)
        · exact .inr (.inl (by omega))
      · have hk2 : ¬ key (L.getD (p - (s - 1)) 0) < key (L.getD (s - 1) 0) := by rcases h1 with h | h; exact absurd h hss; exact h
        obtain ⟨q5, q6⟩ := q4 (s - 1) (by omega) (by omega)
        rw [hLB _ q5 q6, hLA _ (by omega) (by omega), show p - (s - 1) - m = e by omega, show s - 1 - a = i - 1 by omega] at hk2
        exact .inr (.inr (RB_left (hlt _ (getD_mem (by omega)) _ (getD_mem (by omega))) hk2))
    have x21 : ∀ y, y ∈ B1 → ∀ x, x ∈ A2 → RB key y x := by
      rw [hB1d, hA2d]
      refine cross hB hA (by omega) ?_
      by_cases hrr : s = r0
      · rcases hr0' with h | h
        · exact .inl (by omega)
        · exact .inr (.inl (by omega))
      · have hk2 : key (L.getD (p - s) 0) < key (L.getD s 0) := by rcases h2 with h | h; exact absurd h hrr; exact h
        by_cases he0 : e = 0
        · exact .inl he0
        obtain ⟨q5, q6⟩ := q4 s (by omega) (by omega)
        rw [hLB _ q5 q6, hLA _ (by omega) (by omega), show p - s - m = e - 1 by omega, show s - a = i by omega] at hk2
        exact .inr (.inr (.inl hk2))
    have hA' : (A1 ++ A2).Pairwise (RB key) := by rw [eA]; exact hA
    have hB' : (B1 ++ B2).Pairwise (RB key) := by rw [eB]; exact hB
    have sA := List.pairwise_append.1 hA'
    have sB := List.pairwise_append.1 hB'
    have mA1 : ∀ x, x ∈ A1 → x ∈ A := fun x hx => by rw [← eA]; exact List.mem_append_left _ hx
    have mA2 : ∀ x, x ∈ A2 → x ∈ A := fun x hx => by rw [← eA]; exact List.mem_append_right _ hx
    have mB1 : ∀ x, x ∈ B1 → x ∈ B := fun x hx => by rw [← eB]; exact List.mem_append_left _ hx
    have mB2 : ∀ x, x ∈ B2 → x ∈ B := fun x hx => by rw [← eB]; exact List.mem_append_right _ hx
    have mAB : ∀ (U V : List Nat), (∀ x, x ∈ U → x ∈ A) → (∀ x, x ∈ V → x ∈ B) → CmpC F cap key (U ++ V) := fun U V hU hV x hx y hy => by
      refine hcmp x ?_ y ?_
      · rcases List.mem_append.1 hx with h | h
        · exact List.mem_append_left _ (hU x h)
        · exact List.mem_append_right _ (hV x h)
      · rcases List.mem_append.1 hy with h | h
        · exact List.mem_append_left _ (hU y h)
        · exact List.mem_append_right _ (hV y h)
    obtain ⟨nd, hnd⟩ : ∃ nd, nd = mid + m - s := ⟨_, rfl⟩
    have hw8 : IntKind.i64.wrap (((mid + m : Nat) : Int) - (s : Int)) = (nd : Int) := by rw [w64 (by omega) (by omega)]; omega
    have eL : L = (P ++ A1) ++ (A2 ++ (B1 ++ (B2 ++ S))) := by rw [hL, ← eA, ← eB]; simp only [List.append_assoc]
    have hrot := fun h1 h2 => rotate_c F cap hcap N (P ++ A1) A2 B1 (B2 ++ S) h1 h2 (by rw [← eL, hL]; exact hn) hN
    have r1 : (P ++ A1).length = s := by rw [List.length_append]; omega
    have r2 : (P ++ A1).length + A2.length = m := by omega
    have r3 : (P ++ A1).length + A2.length + B1.length = nd := by omega
    rw [r3, r2, r1, ← eL] at hrot
    obtain ⟨L2, hL2⟩ : ∃ L2, L2 = (P ++ A1) ++ (B1 ++ (A2 ++ (B2 ++ S))) := ⟨_, rfl⟩
    rw [← hL2] at hrot
    have l2n : L2.length = N := by rw [hL2]; simp only [List.length_append]; omega
    repeat' (first | refine xo 4000 rfl ?_ ?_ | refine xw 4000 rfl ?_ ?_ | refine xk 4000 rfl ?_ ?_ | exact trivial | ((with_reducible (show AllP (_ :: _))); refine And.intro ?_ ?_) | refine xs rfl ?_ ?_ | refine xs_done ?_ | refine pcond_t rfl ?_ | refine pcond_f rfl ?_ | refine kround_exit ?_ | refine kround_ret ?_ | refine kround_next ?_ | refine kloop_ret ?_ | refine kloop_exit ?_ | refine kcut_ret ?_ | refine kcut_exit ?_ | refine xo0 4000 rfl ?_ ?_ | refine xw0 4000 rfl ?_ ?_ | exact qq | fail)
    rw [hw8]
    refine pcut (fun st => st = ⟨[(0, .lsl 0 0 N), (1, vi a), (3, vi b), (4, .clo F 1 (fun _ => cap)), (18, vi mid), (20, vi (s : Nat)), (24, vi (nd : Nat))], [iRow N (lN L2)]⟩) ?_ ?_
    · refine pcond rfl ?_ ?_ <;> intro hc2
      · have hc2 : (bif decide ((s : Int) < (m : Int)) then decide ((m : Int) < (nd : Int)) else false) = true := hc2
        have hh2 : s < m ∧ m < nd := by
          by_cases h : s < m
          · simp [h] at hc2; omega
          · simp [h] at hc2
        repeat' (first | refine xo 4000 rfl ?_ ?_ | refine xw 4000 rfl ?_ ?_ | refine xk 4000 rfl ?_ ?_ | exact trivial | ((with_reducible (show AllP (_ :: _))); refine And.intro ?_ ?_) | refine xs rfl ?_ ?_ | refine xs_done ?_ | refine pcond_t rfl ?_ | refine pcond_f rfl ?_ | refine kround_exit ?_ | refine kround_ret ?_ | refine kround_next ?_ | refine kloop_ret ?_ | refine kloop_exit ?_ | refine kcut_ret ?_ | refine kcut_exit ?_ | refine xo0 4000 rfl ?_ ?_ | refine xw0 4000 rfl ?_ ?_ | exact qq | fail)
        refine pop_rowsc [0] rfl rfl rfl rfl rfl rfl (.cons rfl trivial (RowEq.cl (i_cl _ _)) .nil) (hrot (by omega) (by omega)) ⟨PEq.refl _, PEq.refl _, PEq.refl _, PEq.refl _, PEq.cl _ hclo, trivial⟩ ?_
        rintro r rows ⟨rfl, rfl⟩
        refine ⟨_, _, rfl, ⟨i_cl _ _, trivial⟩, rfl, ?_⟩
        repeat' (first | refine xo 4000 rfl ?_ ?_ | refine xw 4000 rfl ?_ ?_ | refine xk 4000 rfl ?_ ?_ | exact trivial | ((with_reducible (show AllP (_ :: _))); refine And.intro ?_ ?_) | refine xs rfl ?_ ?_ | refine xs_done ?_ | refine pcond_t rfl ?_ | refine pcond_f rfl ?_ | refine kround_exit ?_ | refine kround_ret ?_ | refine kround_next ?_ | refine kloop_ret ?_ | refine kloop_exit ?_ | refine kcut_ret ?_ | refine kcut_exit ?_ | refine xo0 4000 rfl ?_ ?_ | refine xw0 4000 rfl ?_ ?_ | exact qq | fail)
        exact kcut (st' := ⟨[(0, .lsl 0 0 N), (1, vi a), (3, vi b), (4, .clo F 1 (fun _ => cap)), (18, vi mid), (20, vi (s : Nat)), (24, vi (nd : Nat))], [iRow N (lN L2)]⟩) (can_rowsv [0] (k0_sel hk rfl) rfl (.cons rfl rqq .nil) (by exact ⟨PEq.refl _, PEq.refl _, PEq.refl _, PEq.cl _ hclo, PEq.refl _, PEq.refl _, PEq.refl _, trivial⟩)) rfl
      · have hc2 : (bif decide ((s : Int) < (m : Int)) then decide ((m : Int) < (nd : Int)) else false) = false := hc2
        have hh2 : ¬ s < m ∨ ¬ m < nd := by
          by_cases h : s < m
          · simp [h] at hc2; omega
          · exact .inl h
        have eLL : L = L2 := by
          rw [eL, hL2]
          rcases hh2 with h | h
          · have : A2 = [] := List.length_eq_zero_iff.1 (by omega)
            rw [this]; simp
          · have : B1 = [] := List.length_eq_zero_iff.1 (by omega)
            rw [this]; simp
        rw [eLL]
        repeat' (first | refine xo 4000 rfl ?_ ?_ | refine xw 4000 rfl ?_ ?_ | refine xk 4000 rfl ?_ ?_ | exact trivial | ((with_reducible (show AllP (_ :: _))); refine And.intro ?_ ?_) | refine xs rfl ?_ ?_ | refine xs_done ?_ | refine pcond_t rfl ?_ | refine pcond_f rfl ?_ | refine kround_exit ?_ | refine kround_ret ?_ | refine kround_next ?_ | refine kloop_ret ?_ | refine kloop_exit ?_ | refine kcut_ret ?_ | refine kcut_exit ?_ | refine xo0 4000 rfl ?_ ?_ | refine xw0 4000 rfl ?_ ?_ | exact qq | fail)
        exact kcut (st' := ⟨[(0, .lsl 0 0 N), (1, vi a), (3, vi b), (4, .clo F 1 (fun _ => cap)), (18, vi mid), (20, vi (s : Nat)), (24, vi (nd : Nat))], [iRow N (lN L2)]⟩) (can_rowsv [0] (k0_sel hk rfl) rfl (.cons rfl rqq .nil) (by exact ⟨PEq.refl _, PEq.refl _, PEq.refl _, PEq.cl _ hclo, PEq.refl _, PEq.refl _, PEq.refl _, trivial⟩)) rfl
    rintro _ rfl
    have eL2 : L2 = P ++ (A1 ++ (B1 ++ (A2 ++ (B2 ++ S)))) := by rw [hL2]; simp only [List.append_assoc]
    have hs1' := fun h1 h2 => ih P A1 B1 (A2 ++ (B2 ++ S)) (by omega) h1 h2 sA.1 sB.1 (fun x hx y hy => hlt x (mA1 x hx) y (mB1 y hy)) (mAB A1 B1 mA1 mB1) (by rw [← eL2]; exact l2n)
    unfold SymC at hs1'
    rw [← eL2, ← ha, show a + A1.length + B1.length = mid by omega, show a + A1.length = s by omega] at hs1'
    repeat' (first | refine xo 4000 rfl ?_ ?_ | refine xw 4000 rfl ?_ ?_ | refine xk 4000 rfl ?_ ?_ | exact trivial | ((with_reducible (show AllP (_ :: _))); refine And.intro ?_ ?_) | refine xs rfl ?_ ?_ | refine xs_done ?_ | refine pcond_t rfl ?_ | refine pcond_f rfl ?_ | refine kround_exit ?_ | refine kround_ret ?_ | refine kround_next ?_ | refine kloop_ret ?_ | refine kloop_exit ?_ | refine kcut_ret ?_ | refine kcut_exit ?_ | refine xo0 4000 rfl ?_ ?_ | refine xw0 4000 rfl ?_ ?_ | exact qq | fail)
    refine pcut (fun st => ∃ M : List Nat, M.Perm (A1 ++ B1) ∧ M.Pairwise (RB key) ∧ st = ⟨[(0, .lsl 0 0 N), (3, vi b), (4, .clo F 1 (fun _ => cap)), (18, vi mid), (24, vi (nd : Nat))], [iRow N (lN (P ++ (M ++ (A2 ++ (B2 ++ S)))))]⟩) ?_ ?_
    · refine pcond rfl ?_ ?_ <;> intro hc2
      · have hc2 : (bif decide ((a : Int) < (s : Int)) then decide ((s : Int) < (mid : Int)) else false) = true := hc2
        have hh2 : a < s ∧ s < mid := by
          by_cases h : a < s
          · simp [h] at hc2; omega
          · simp [h] at hc2
        repeat' (first | refine xo 4000 rfl ?_ ?_ | refine xw 4000 rfl ?_ ?_ | refine xk 4000 rfl ?_ ?_ | exact trivial | ((with_reducible (show AllP (_ :: _))); refine And.intro ?_ ?_) | refine xs rfl ?_ ?_ | refine xs_done ?_ | refine pcond_t rfl ?_ | refine pcond_f rfl ?_ | refine kround_exit ?_ | refine kround_ret ?_ | refine kround_next ?_ | refine kloop_ret ?_ | refine kloop_exit ?_ | refine kcut_ret ?_ | refine kcut_exit ?_ | refine xo0 4000 rfl ?_ ?_ | refine xw0 4000 rfl ?_ ?_ | exact qq | fail)
        refine pop_rowsc [0] rfl rfl rfl rfl rfl rfl (.cons rfl trivial (RowEq.cl (i_cl _ _)) .nil) (hs1' (by omega) (by omega)) ⟨PEq.refl _, PEq.refl _, PEq.refl _, PEq.refl _, PEq.cl _ hclo, trivial⟩ ?_
        rintro r rows ⟨rfl, M, g1, g2, rfl⟩
        refine ⟨_, _, rfl, ⟨i_cl _ _, trivial⟩, rfl, ?_⟩
        repeat' (first | refine xo 4000 rfl ?_ ?_ | refine xw 4000 rfl ?_ ?_ | refine xk 4000 rfl ?_ ?_ | exact trivial | ((with_reducible (show AllP (_ :: _))); refine And.intro ?_ ?_) | refine xs rfl ?_ ?_ | refine xs_done ?_ | refine pcond_t rfl ?_ | refine pcond_f rfl ?_ | refine kround_exit ?_ | refine kround_ret ?_ | refine kround_next ?_ | refine kloop_ret ?_ | refine kloop_exit ?_ | refine kcut_ret ?_ | refine kcut_exit ?_ | refine xo0 4000 rfl ?_ ?_ | refine xw0 4000 rfl ?_ ?_ | exact qq | fail)
        exact kcut (st' := ⟨[(0, .lsl 0 0 N), (3, vi b), (4, .clo F 1 (fun _ => cap)), (18, vi mid), (24, vi (nd : Nat))], [iRow N (lN (P ++ (M ++ (A2 ++ (B2 ++ S)))))]⟩) (can_rowsv [0] (k0_sel hk rfl) rfl (.cons rfl rqq .nil) (by exact ⟨PEq.refl _, PEq.refl _, PEq.cl _ hclo, PEq.refl _, PEq.refl _, trivial⟩)) ⟨M, g1, g2, rfl⟩
      · have hc2 : (bif decide ((a : Int) < (s : Int)) then decide ((s : Int) < (mid : Int)) else false) = false := hc2
        have hh2 : ¬ a < s ∨ ¬ s < mid := by
          by_cases h : a < s
          · simp [h] at hc2; omega
          · exact .inl h
        have g2 : (A1 ++ B1).Pairwise (RB key) := by
          rcases hh2 with h | h
          · have : A1 = [] := List.length_eq_zero_iff.1 (by omega)
            rw [this]; exact sB.1
          · have : B1 = [] := List.length_eq_zero_iff.1 (by omega)
            rw [this, List.append_nil]; exact sA.1
        rw [show L2 = P ++ ((A1 ++ B1) ++ (A2 ++ (B2 ++ S))) by rw [eL2]; simp only [List.append_assoc]]
        repeat' (first | refine xo 4000 rfl ?_ ?_ | refine xw 4000 rfl ?_ ?_ | refine xk 4000 rfl ?_ ?_ | exact trivial | ((with_reducible (show AllP (_ :: _))); refine And.intro ?_ ?_) | refine xs rfl ?_ ?_ | refine xs_done ?_ | refine pcond_t rfl ?_ | refine pcond_f rfl ?_ | refine kround_exit ?_ | refine kround_ret ?_ | refine kround_next ?_ | refine kloop_ret ?_ | refine kloop_exit ?_ | refine kcut_ret ?_ | refine kcut_exit ?_ | refine xo0 4000 rfl ?_ ?_ | refine xw0 4000 rfl ?_ ?_ | exact qq | fail)
        exact kcut (st' := ⟨[(0, .lsl 0 0 N), (3, vi b), (4, .clo F 1 (fun _ => cap)), (18, vi mid), (24, vi (nd : Nat))], [iRow N (lN (P ++ ((A1 ++ B1) ++ (A2 ++ (B2 ++ S)))))]⟩) (can_rowsv [0] (k0_sel hk rfl) rfl (.cons rfl rqq .nil) (by exact ⟨PEq.refl _, PEq.refl _, PEq.cl _ hclo, PEq.refl _, PEq.refl _, trivial⟩)) ⟨_, .refl _, g2, rfl⟩
    rintro _ ⟨M1, p1, s1, rfl⟩
    have lM1 : M1.length = i + e := by rw [p1.length_eq, List.length_append]; omega
    have eM : P ++ (M1 ++ (A2 ++ (B2 ++ S))) = (P ++ M1) ++ (A2 ++ (B2 ++ S)) := by simp only [List.append_assoc]
    have hs2' := fun h1 h2 => ih (P ++ M1) A2 B2 S (by omega) h1 h2 sA.2.1 sB.2.1 (fun x hx y hy => hlt x (mA2 x hx) y (mB2 y hy)) (mAB A2 B2 mA2 mB2) (by simp only [List.length_append]; omega)
    unfold SymC at hs2'
    have r4 : (P ++ M1).length = mid := by rw [List.length_append]; omega
    have r5 : (P ++ M1).length + A2.length = nd := by omega
    have r6 : (P ++ M1).length + A2.length + B2.length = b := by omega
    rw [r6, r5, r4, ← eM] at hs2'
    repeat' (first | refine xo 4000 rfl ?_ ?_ | refine xw 4000 rfl ?_ ?_ | refine xk 4000 rfl ?_ ?_ | exact trivial | ((with_reducible (show AllP (_ :: _))); refine And.intro ?_ ?_) | refine xs rfl ?_ ?_ | refine xs_done ?_ | refine pcond_t rfl ?_ | refine pcond_f rfl ?_ | refine kround_exit ?_ | refine kround_ret ?_ | refine kround_next ?_ | refine kloop_ret ?_ | refine kloop_exit ?_ | refine kcut_ret ?_ | refine kcut_exit ?_ | refine xo0 4000 rfl ?_ ?_ | refine xw0 4000 rfl ?_ ?_ | exact qq | fail)
    refine pcond rfl ?_ ?_ <;> intro hc2
    · have hc2 : (bif decide ((mid : Int) < (nd : Int)) then decide ((nd : Int) < (b : Int)) else false) = true := hc2
      have hh2 : mid < nd ∧ nd < b := by
        by_cases h : mid < nd
        · simp [h] at hc2; omega
        · simp [h] at hc2
      repeat' (first | refine xo 4000 rfl ?_ ?_ | refine xw 4000 rfl ?_ ?_ | refine xk 4000 rfl ?_ ?_ | exact trivial | ((with_reducible (show AllP (_ :: _))); refine And.intro ?_ ?_) | refine xs rfl ?_ ?_ | refine xs_done ?_ | refine pcond_t rfl ?_ | refine pcond_f rfl ?_ | refine kround_exit ?_ | refine kround_ret ?_ | refine kround_next ?_ | refine kloop_ret ?_ | refine kloop_exit ?_ | refine kcut_ret ?_ | refine kcut_exit ?_ | refine xo0 4000 rfl ?_ ?_ | refine xw0 4000 rfl ?_ ?_ | exact qq | fail)
      refine pop_rowsc [0] rfl rfl rfl rfl rfl rfl (.cons rfl trivial (RowEq.cl (i_cl _ _)) .nil) (hs2' (by omega) (by omega)) ⟨PEq.refl _, PEq.refl _, PEq.refl _, PEq.refl _, PEq.cl _ hclo, trivial⟩ ?_
      rintro r rows ⟨rfl, M2, p2, s2, rfl⟩
      refine ⟨_, _, rfl, ⟨i_cl _ _, trivial⟩, rfl, ?_⟩
      have hg := glue hA' hB' x12 x21 p1 s1 p2 s2
      rw [eA, eB] at hg
      repeat' (first | refine xo 4000 rfl ?_ ?_ | refine xw 4000 rfl ?_ ?_ | refine xk 4000 rfl ?_ ?_ | exact trivial | ((with_reducible (show AllP (_ :: _))); refine And.intro ?_ ?_) | refine xs rfl ?_ ?_ | refine xs_done ?_ | refine pcond_t rfl ?_ | refine pcond_f rfl ?_ | refine kround_exit ?_ | refine kround_ret ?_ | refine kround_next ?_ | refine kloop_ret ?_ | refine kloop_exit ?_ | refine kcut_ret ?_ | refine kcut_exit ?_ | refine xo0 4000 rfl ?_ ?_ | refine xw0 4000 rfl ?_ ?_ | exact qq | fail)
      exact kretrn (st' := ⟨[], [iRow N (lN (P ++ ((M1 ++ M2) ++ S)))]⟩) (can_rowsv [0] (k0_sel hk rfl) rfl (.cons rfl (i_eq (Nat.le_refl _) (fun q hq => by show vi _ = vi _; simp only [List.append_assoc])) .nil) trivial) rfl trivial rfl ⟨rfl, _, hg.1, hg.2, rfl⟩
    · have hc2 : (bif decide ((mid : Int) < (nd : Int)) then decide ((nd : Int) < (b : Int)) else false) = false := hc2
      have hh2 : ¬ mid < nd ∨ ¬ nd < b := by
        by_cases h : mid < nd
        · simp [h] at hc2; omega
        · exact .inl h
      have s2 : (A2 ++ B2).Pairwise (RB key) := by
        rcases hh2 with h | h
        · have : A2 = [] := List.length_eq_zero_iff.1 (by omega)
          rw [this]; exact sB.2.1
        · have : B2 = [] := List.length_eq_zero_iff.1 (by omega)
          rw [this, List.append_nil]; exact sA.2.1
      have hg := glue hA' hB' x12 x21 p1 s1 (.refl _) s2
      rw [eA, eB] at hg
      repeat' (first | refine xo 4000 rfl ?_ ?_ | refine xw 4000 rfl ?_ ?_ | refine xk 4000 rfl ?_ ?_ | exact trivial | ((with_reducible (show AllP (_ :: _))); refine And.intro ?_ ?_) | refine xs rfl ?_ ?_ | refine xs_done ?_ | refine pcond_t rfl ?_ | refine pcond_f rfl ?_ | refine kround_exit ?_ | refine kround_ret ?_ | refine kround_next ?_ | refine kloop_ret ?_ | refine kloop_exit ?_ | refine kcut_ret ?_ | refine kcut_exit ?_ | refine xo0 4000 rfl ?_ ?_ | refine xw0 4000 rfl ?_ ?_ | exact qq | fail)
      exact kretrn (st' := ⟨[], [iRow N (lN (P ++ ((M1 ++ (A2 ++ B2)) ++ S)))]⟩) (can_rowsv [0] (k0_sel hk rfl) rfl (.cons rfl (i_eq (Nat.le_refl _) (fun q hq => by show vi _ = vi _; simp only [List.append_assoc])) .nil) trivial) rfl trivial rfl ⟨rfl, _, hg.1, hg.2, rfl⟩
theorem sym_c (F : FuncId) (cap : PV) (hcap : clB cap = true) (key : Nat → Int) (N : Nat) (hN : N ≤ 1000000) : ∀ (n : Nat) (P A B S : List Nat), A.length + B.length = n → 0 < A.length → 0 < B.length → A.Pairwise (RB key) → B.Pairwise (RB key) → (∀ x, x ∈ A → ∀ y, y ∈ B → x < y) → CmpC F cap key (A ++ B) → (P ++ (A ++ (B ++ S))).length = N → SymC F cap key N P A B S := by
  intro n
  induction n using Nat.strongRecOn with
  | _ n ih =>
    intro P A B S hn0 hA0 hB0 hA hB hlt hcmp hn
    by_cases hA1 : A.length = 1
    · obtain ⟨x, rfl⟩ := List.length_eq_one_iff.1 hA1
      exact sym_left F cap hcap key N hN P B S x hB0 hB (fun y hy => hlt x (by simp) y hy) hcmp hn
    · by_cases hB1 : B.length = 1
      · obtain ⟨y, rfl⟩ := List.length_eq_one_iff.1 hB1
        exact sym_right F cap hcap key N hN P A S y (by omega) hA (fun x hx => hlt x hx y (by simp)) hcmp hn
      · exact sym_step F cap hcap key N hN P A B S (by omega) (by omega) hA hB hlt hcmp hn (fun P' A' B' S' hl h1 h2 h3 h4 h5 h6 h7 => ih _ (by omega) P' A' B' S' rfl h1 h2 h3 h4 h5 h6 h7)
end Go.Proofs.Ytppjjhnaahgmhaa
