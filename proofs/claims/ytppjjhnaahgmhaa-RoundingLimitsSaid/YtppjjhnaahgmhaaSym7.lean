/- The library's stable sort, for any length. -/
import Derived.Test.YtppjjhnaahgmhaaSym6
set_option linter.unusedSimpArgs false
set_option linter.unusedVariables false
set_option maxRecDepth 100000
namespace Go.Proofs.Ytppjjhnaahgmhaa
/-- a sorted piece M of what was m -/
structure Pc (key : Nat → Int) (M m : List Nat) : Prop where
  p : M.Perm m
  s : M.Pairwise (RB key)
/-- pieces of length s -/
inductive Fl (key : Nat → Int) (s : Nat) : List Nat → List Nat → Prop
  | nil : Fl key s [] []
  | cons {M m R r : List Nat} : Pc key M m → M.length = s → Fl key s R r → Fl key s (M ++ R) (m ++ r)
/-- pieces of length s, and at the end one that may be shorter -/
inductive Ch (key : Nat → Int) (s : Nat) : List Nat → List Nat → Prop
  | last {M m : List Nat} : Pc key M m → M.length ≤ s → Ch key s M m
  | cons {M m R r : List Nat} : Pc key M m → M.length = s → Ch key s R r → Ch key s (M ++ R) (m ++ r)
theorem Fl.snoc {key : Nat → Int} {s : Nat} {D d M m : List Nat} (h : Fl key s D d) (hp : Pc key M m) (hl : M.length = s) : Fl key s (D ++ M) (d ++ m) := by
  induction h with
  | nil => simpa using Fl.cons hp hl .nil
  | cons h1 h2 h3 ih => rw [List.append_assoc, List.append_assoc]; exact .cons h1 h2 ih
theorem Fl.app {key : Nat → Int} {s : Nat} {D d R r : List Nat} (h : Fl key s D d) (hr : Ch key s R r) : Ch key s (D ++ R) (d ++ r) := by
  induction h with
  | nil => simpa using hr
  | cons h1 h2 h3 ih => rw [List.append_assoc, List.append_assoc]; exact .cons h1 h2 ih
theorem Fl.perm {key : Nat → Int} {s : Nat} {D d : List Nat} (h : Fl key s D d) : D.Perm d := by
  induction h with
  | nil => exact .refl _
  | cons h1 h2 h3 ih => exact h1.p.append ih
theorem Ch.perm {key : Nat → Int} {s : Nat} {D d : List Nat} (h : Ch key s D d) : D.Perm d := by
  induction h with
  | last h1 => exact h1.p
  | cons h1 h2 h3 ih => exact h1.p.append ih
theorem Pc.nil {key : Nat → Int} : Pc key [] [] := ⟨.refl _, .nil⟩
theorem Ch.short {key : Nat → Int} {s : Nat} {R r : List Nat} (h : Ch key s R r) (hl : R.length ≤ s) : Pc key R r := by
  cases h with
  | last h1 => exact h1
  | @cons M m R r h1 h2 h3 =>
    have : R = [] := List.length_eq_zero_iff.1 (by simp at hl; omega)
    subst this
    have hr : r = [] := by simpa using h3.perm.symm
    subst hr
    simpa using h1
theorem Ch.two {key : Nat → Int} {s : Nat} {R r : List Nat} (h : Ch key s R r) (hl : s < R.length) :
    ∃ A B T a b t, R = A ++ (B ++ T) ∧ r = a ++ (b ++ t) ∧ Pc key A a ∧ A.length = s ∧ Pc key B b ∧ B.length ≤ s ∧ (B.length = s ∨ T = []) ∧ Ch key s T t ∧ 0 < B.length := by
  cases h with
  | last h1 h2 => omega
  | @cons A a R r h1 h2 h3 =>
    have hR : 0 < R.length := by simp at hl; omega
    cases h3 with
    | last h4 h5 => exact ⟨A, R, [], a, r, [], by simp, by simp, h1, h2, h4, h5, .inr rfl, .last .nil (by simp), hR⟩
    | @cons B b T t h4 h5 h6 =>
      by_cases hB : 0 < s
      · exact ⟨A, B, T, a, b, t, rfl, rfl, h1, h2, h4, by omega, .inl h5, h6, by omega⟩
      · have hs0 : s = 0 := by omega
        exfalso
        have : ∀ {X x : List Nat}, Ch key s X x → X = [] := fun {X x} hx => by
          subst hs0
          induction hx with
          | last _ h => exact List.length_eq_zero_iff.1 (by omega)
          | cons _ h _ ih => rw [ih, List.length_eq_zero_iff.1 h]; rfl
        have e1 := this h6
        have e2 : B = [] := List.length_eq_zero_iff.1 (by omega)
        subst e1 e2
        simp at hR
theorem asc_app {d r : List Nat} (h : (d ++ r).Pairwise (· < ·)) : d.Pairwise (· < ·) ∧ r.Pairwise (· < ·) ∧ ∀ x, x ∈ d → ∀ y, y ∈ r → x < y := List.pairwise_append.1 h
theorem CmpC.sub {F : FuncId} {cap : PV} {key : Nat → Int} {l l' : List Nat} (h : CmpC F cap key l) (hs : ∀ x, x ∈ l' → x ∈ l) : CmpC F cap key l' := fun a ha b hb => h a (hs a ha) b (hs b hb)
theorem Fl.len {key : Nat → Int} {s : Nat} {D d : List Nat} (h : Fl key s D d) : D.length = d.length := h.perm.length_eq
/-- what is left is merged -/
theorem merge_pc {key : Nat → Int} {A B M a b : List Nat} (hA : Pc key A a) (hB : Pc key B b) (p : M.Perm (A ++ B)) (s : M.Pairwise (RB key)) : Pc key M (a ++ b) := ⟨p.trans (hA.p.append hB.p), s⟩
def StC (F : FuncId) (cap : PV) (key : Nat → Int) (l : List Nat) (n : Nat) : Prop :=
  RowsC G.P 59 [iRow n (lN l)] [.lsl 0 0 n, vi n, .clo F 1 (fun _ => cap)] (fun r rows => r = .tup 0 (nthP []) ∧ ∃ l' : List Nat, l'.Perm l ∧ l'.Pairwise (RB key) ∧ rows = [iRow n (lN l')])
set_option maxHeartbeats 2000000 in
theorem stable_c (F : FuncId) (cap : PV) (key : Nat → Int) (l : List Nat) (n : Nat) (hn : l.length = n) (hnB : n ≤ 100000) (hasc : l.Pairwise (· < ·)) (hcap : clB cap = true) (hcmp : CmpC F cap key l) : StC F cap key l n := by
  unfold StC
  have hclo : Cl (.clo F 1 (fun _ => cap)) := fun _ _ => clB_spec cap hcap
  refine rows_of (G := G.toPg) (fn := Try.f59) Try.func59 rfl rfl rfl ?_; intro Γ hk
  repeat' (first | refine xo 4000 rfl ?_ ?_ | refine xw 4000 rfl ?_ ?_ | refine xk 4000 rfl ?_ ?_ | exact trivial | ((with_reducible (show AllP (_ :: _))); refine And.intro ?_ ?_) | refine xs rfl ?_ ?_ | refine xs_done ?_ | refine pcond_t rfl ?_ | refine pcond_f rfl ?_ | refine kround_exit ?_ | refine kround_ret ?_ | refine kround_next ?_ | refine kloop_ret ?_ | refine kloop_exit ?_ | refine kcut_ret ?_ | refine kcut_exit ?_ | refine xo0 4000 rfl ?_ ?_ | refine xw0 4000 rfl ?_ ?_ | exact qq | fail)
  refine pcan (st' := ⟨[(0, .lsl 0 0 n), (1, vi n), (2, .clo F 1 (fun _ => cap)), (6, vi 20), (7, vi ((0 : Nat) : Int)), (8, vi ((0 + 20 : Nat) : Int))], [iRow n (lN l)]⟩) (can_rowsv [0] (k0_sel hk rfl) rfl (.cons rfl rqq .nil) (by exact ⟨PEq.refl _, PEq.refl _, PEq.cl _ hclo, PEq.refl _, PEq.refl _, PEq.refl _, trivial⟩)) ?_
  refine ploop (fun q st => ∃ (D d R : List Nat), Fl key 20 D d ∧ l = d ++ R ∧ q = R.length ∧ st = ⟨[(0, .lsl 0 0 n), (1, vi n), (2, .clo F 1 (fun _ => cap)), (6, vi 20), (7, vi (D.length : Nat)), (8, vi ((D.length + 20 : Nat) : Int))], [iRow n (lN (D ++ R))]⟩) n ⟨[], [], l, .nil, by simp, hn.symm, rfl⟩ ?_
  rintro _ _ ⟨D, d, R, hD, rfl, rfl, rfl⟩
  have hDl := hD.len
  obtain ⟨k1, k2, k3⟩ := asc_app hasc
  simp only [List.length_append] at hn
  repeat' (first | refine xo 4000 rfl ?_ ?_ | refine xw 4000 rfl ?_ ?_ | refine xk 4000 rfl ?_ ?_ | exact trivial | ((with_reducible (show AllP (_ :: _))); refine And.intro ?_ ?_) | refine xs rfl ?_ ?_ | refine xs_done ?_ | refine pcond_t rfl ?_ | refine pcond_f rfl ?_ | refine kround_exit ?_ | refine kround_ret ?_ | refine kround_next ?_ | refine kloop_ret ?_ | refine kloop_exit ?_ | refine kcut_ret ?_ | refine kcut_exit ?_ | refine xo0 4000 rfl ?_ ?_ | refine xw0 4000 rfl ?_ ?_ | exact qq | fail)
  refine pcond rfl ?_ ?_ <;> intro hc <;> simp at hc
  · obtain ⟨X, hX⟩ : ∃ X, X = R.take 20 := ⟨_, rfl⟩
    obtain ⟨T, hT⟩ : ∃ T, T = R.drop 20 := ⟨_, rfl⟩
    have eR : X ++ T = R := by rw [hX, hT]; exact List.take_append_drop _ _
    have lX : X.length = 20 := by rw [hX, List.length_take]; omega
    have lT : T.length = R.length - 20 := by rw [hT, List.length_drop]
    rw [← eR] at k2 hcmp
    have hi := insSeg_c F cap key n D X T (by simp only [List.length_append]; omega) (by omega) (asc_app k2).1 hcap (hcmp.sub fun x hx => by simp [hx])
    rw [lX, eR] at hi
    have hw : IntKind.i64.wrap (((D.length + 20 : Nat) : Int) + 20) = ((D.length + 20 + 20 : Nat) : Int) := by rw [w64 (by omega) (by omega)]; omega
    repeat' (first | refine xo 4000 rfl ?_ ?_ | refine xw 4000 rfl ?_ ?_ | refine xk 4000 rfl ?_ ?_ | exact trivial | ((with_reducible (show AllP (_ :: _))); refine And.intro ?_ ?_) | refine xs rfl ?_ ?_ | refine xs_done ?_ | refine pcond_t rfl ?_ | refine pcond_f rfl ?_ | refine kround_exit ?_ | refine kround_ret ?_ | refine kround_next ?_ | refine kloop_ret ?_ | refine kloop_exit ?_ | refine kcut_ret ?_ | refine kcut_exit ?_ | refine xo0 4000 rfl ?_ ?_ | refine xw0 4000 rfl ?_ ?_ | exact qq | fail)
    refine pop_rowsc [0] rfl rfl rfl rfl rfl rfl (.cons rfl trivial (RowEq.cl (i_cl _ _)) .nil) hi ⟨PEq.refl _, PEq.refl _, PEq.refl _, PEq.cl _ hclo, trivial⟩ ?_
    rintro r rows ⟨rfl, M, g1, g2, rfl⟩
    refine ⟨_, _, rfl, ⟨i_cl _ _, trivial⟩, rfl, ?_⟩
    have lM : M.length = 20 := by rw [g1.length_eq, lX]
    have lDM : (D ++ M).length = D.length + 20 := by rw [List.length_append, lM]
    repeat' (first | refine xo 4000 rfl ?_ ?_ | refine xw 4000 rfl ?_ ?_ | refine xk 4000 rfl ?_ ?_ | exact trivial | ((with_reducible (show AllP (_ :: _))); refine And.intro ?_ ?_) | refine xs rfl ?_ ?_ | refine xs_done ?_ | refine pcond_t rfl ?_ | refine pcond_f rfl ?_ | refine kround_exit ?_ | refine kround_ret ?_ | refine kround_next ?_ | refine kloop_ret ?_ | refine kloop_exit ?_ | refine kcut_ret ?_ | refine kcut_exit ?_ | refine xo0 4000 rfl ?_ ?_ | refine xw0 4000 rfl ?_ ?_ | exact qq | fail)
    rw [hw]
    refine kloop_next (st' := ⟨[(0, .lsl 0 0 n), (1, vi n), (2, .clo F 1 (fun _ => cap)), (6, vi 20), (7, vi ((D ++ M).length : Nat)), (8, vi (((D ++ M).length + 20 : Nat) : Int))], [iRow n (lN ((D ++ M) ++ T))]⟩) T.length (by rw [lDM]; exact can_rowsv [0] (k0_sel hk rfl) rfl (.cons rfl (i_eq (Nat.le_refl _) (fun q hq => by show vi _ = vi _; rw [List.append_assoc])) .nil) (by exact ⟨PEq.refl _, PEq.refl _, PEq.cl _ hclo, PEq.refl _, PEq.refl _, PEq.refl _, trivial⟩)) (by omega) ⟨D ++ M, d ++ X, T, hD.snoc ⟨g1, g2⟩ lM, by rw [List.append_assoc, eR], rfl, rfl⟩
  · have hi := insSeg_c F cap key n D R [] (by simp only [List.length_append, List.length_nil]; omega) (by omega) k2 hcap (hcmp.sub fun x hx => by simp [hx])
    rw [List.append_nil, show D.length + R.length = n by omega] at hi
    repeat' (first | refine xo 4000 rfl ?_ ?_ | refine xw 4000 rfl ?_ ?_ | refine xk 4000 rfl ?_ ?_ | exact trivial | ((with_reducible (show AllP (_ :: _))); refine And.intro ?_ ?_) | refine xs rfl ?_ ?_ | refine xs_done ?_ | refine pcond_t rfl ?_ | refine pcond_f rfl ?_ | refine kround_exit ?_ | refine kround_ret ?_ | refine kround_next ?_ | refine kloop_ret ?_ | refine kloop_exit ?_ | refine kcut_ret ?_ | refine kcut_exit ?_ | refine xo0 4000 rfl ?_ ?_ | refine xw0 4000 rfl ?_ ?_ | exact qq | fail)
    refine pop_rowsc [0] rfl rfl rfl rfl rfl rfl (.cons rfl trivial (RowEq.cl (i_cl _ _)) .nil) hi ⟨PEq.refl _, PEq.refl _, PEq.refl _, PEq.cl _ hclo, trivial⟩ ?_
    rintro r rows ⟨rfl, M, g1, g2, rfl⟩
    refine ⟨_, _, rfl, ⟨i_cl _ _, trivial⟩, rfl, ?_⟩
    have lM : M.length = R.length := g1.length_eq
    have hC : Ch key 20 (D ++ M) (d ++ R) := hD.app (.last ⟨g1, g2⟩ (by omega))
    obtain ⟨l, hl⟩ : ∃ l, l = d ++ R := ⟨_, rfl⟩
    obtain ⟨L, hL⟩ : ∃ L, L = D ++ M := ⟨_, rfl⟩
    rw [← hl] at hC hcmp hasc ⊢
    rw [← hL] at hC
    rw [List.append_nil, ← hL]
    have hln : l.length = n := by rw [hl, List.length_append]; exact hn
    have hLn : L.length = n := by rw [hC.perm.length_eq, hln]
    clear hl hL hDl k1 k2 k3 hi g1 g2 lM hD hc hn
    repeat' (first | refine xo 4000 rfl ?_ ?_ | refine xw 4000 rfl ?_ ?_ | refine xk 4000 rfl ?_ ?_ | exact trivial | ((with_reducible (show AllP (_ :: _))); refine And.intro ?_ ?_) | refine xs rfl ?_ ?_ | refine xs_done ?_ | refine pcond_t rfl ?_ | refine pcond_f rfl ?_ | refine kround_exit ?_ | refine kround_ret ?_ | refine kround_next ?_ | refine kloop_ret ?_ | refine kloop_exit ?_ | refine kcut_ret ?_ | refine kcut_exit ?_ | refine xo0 4000 rfl ?_ ?_ | refine xw0 4000 rfl ?_ ?_ | exact qq | fail)
    refine pcan (st' := ⟨[(0, .lsl 0 0 n), (1, vi n), (2, .clo F 1 (fun _ => cap)), (6, vi ((20 : Nat) : Int))], [iRow n (lN L)]⟩) (can_rowsv [0] (k0_sel hk rfl) rfl (.cons rfl rqq .nil) (by exact ⟨PEq.refl _, PEq.refl _, PEq.cl _ hclo, PEq.refl _, trivial⟩)) ?_
    refine ploop (fun q st => ∃ (s : Nat) (L : List Nat), Ch key s L l ∧ L.length = n ∧ 0 < s ∧ s ≤ 200020 ∧ q = n - s ∧ st = ⟨[(0, .lsl 0 0 n), (1, vi n), (2, .clo F 1 (fun _ => cap)), (6, vi (s : Nat))], [iRow n (lN L)]⟩) (n - 20) ⟨20, L, hC, hLn, by omega, by omega, rfl, rfl⟩ ?_
    clear hC hLn
    clear L
    rintro _ _ ⟨s, L, hC, hLn, hs, hsb, rfl, rfl⟩
    have hw2 : IntKind.i64.wrap (2 * (s : Int)) = ((s + s : Nat) : Int) := by rw [w64 (by omega) (by omega)]; omega
    have hw3 : IntKind.i64.wrap ((s : Int) * 2) = ((s + s : Nat) : Int) := by rw [w64 (by omega) (by omega)]; omega
    repeat' (first | refine xo 4000 rfl ?_ ?_ | refine xw 4000 rfl ?_ ?_ | refine xk 4000 rfl ?_ ?_ | exact trivial | ((with_reducible (show AllP (_ :: _))); refine And.intro ?_ ?_) | refine xs rfl ?_ ?_ | refine xs_done ?_ | refine pcond_t rfl ?_ | refine pcond_f rfl ?_ | refine kround_exit ?_ | refine kround_ret ?_ | refine kround_next ?_ | refine kloop_ret ?_ | refine kloop_exit ?_ | refine kcut_ret ?_ | refine kcut_exit ?_ | refine xo0 4000 rfl ?_ ?_ | refine xw0 4000 rfl ?_ ?_ | exact qq | fail)
    refine pcond rfl ?_ ?_ <;> intro hc <;> simp at hc
    · repeat' (first | refine xo 4000 rfl ?_ ?_ | refine xw 4000 rfl ?_ ?_ | refine xk 4000 rfl ?_ ?_ | exact trivial | ((with_reducible (show AllP (_ :: _))); refine And.intro ?_ ?_) | refine xs rfl ?_ ?_ | refine xs_done ?_ | refine pcond_t rfl ?_ | refine pcond_f rfl ?_ | refine kround_exit ?_ | refine kround_ret ?_ | refine kround_next ?_ | refine kloop_ret ?_ | refine kloop_exit ?_ | refine kcut_ret ?_ | refine kcut_exit ?_ | refine xo0 4000 rfl ?_ ?_ | refine xw0 4000 rfl ?_ ?_ | exact qq | fail)
      rw [hw2]
      refine pcan (st' := ⟨[(0, .lsl 0 0 n), (1, vi n), (2, .clo F 1 (fun _ => cap)), (6, vi (s : Nat)), (7, vi (([] : List Nat).length : Nat)), (8, vi ((([] : List Nat).length + (s + s) : Nat) : Int))], [iRow n (lN ([] ++ L))]⟩) (can_rowsv [0] (k0_sel hk rfl) rfl (.cons rfl rqq .nil) (by exact ⟨PEq.refl _, PEq.refl _, PEq.cl _ hclo, PEq.refl _, PEq.refl _, PEq.of (by show vi _ = vi _; simp), trivial⟩)) ?_
      refine ploop (fun q st => ∃ (D d R r : List Nat), Fl key (s + s) D d ∧ Ch key s R r ∧ l = d ++ r ∧ D.length + R.length = n ∧ q = R.length ∧ st = ⟨[(0, .lsl 0 0 n), (1, vi n), (2, .clo F 1 (fun _ => cap)), (6, vi (s : Nat)), (7, vi (D.length : Nat)), (8, vi ((D.length + (s + s) : Nat) : Int))], [iRow n (lN (D ++ R))]⟩) L.length ⟨[], [], L, l, .nil, hC, by simp, by simpa using hLn, rfl, rfl⟩ ?_
      rintro _ _ ⟨D, d, R, r, hD, hR, hl, hln2, rfl, rfl⟩
      have hDl := hD.len
      have hasc2 := hasc
      rw [hl] at hasc2
      obtain ⟨k1, k2, k3⟩ := asc_app hasc2
      have hmem : ∀ x, x ∈ R → x ∈ l := fun x hx => by rw [hl]; exact List.mem_append_right _ (hR.perm.mem_iff.1 hx)
      have hw4 : IntKind.i64.wrap ((D.length : Int) + (s : Int)) = ((D.length + s : Nat) : Int) := by rw [w64 (by omega) (by omega)]; omega
      repeat' (first | refine xo 4000 rfl ?_ ?_ | refine xw 4000 rfl ?_ ?_ | refine xk 4000 rfl ?_ ?_ | exact trivial | ((with_reducible (show AllP (_ :: _))); refine And.intro ?_ ?_) | refine xs rfl ?_ ?_ | refine xs_done ?_ | refine pcond_t rfl ?_ | refine pcond_f rfl ?_ | refine kround_exit ?_ | refine kround_ret ?_ | refine kround_next ?_ | refine kloop_ret ?_ | refine kloop_exit ?_ | refine kcut_ret ?_ | refine kcut_exit ?_ | refine xo0 4000 rfl ?_ ?_ | refine xw0 4000 rfl ?_ ?_ | exact qq | fail)
      refine pcond rfl ?_ ?_ <;> intro hc2 <;> simp at hc2
      · obtain ⟨A, B, T, a, b, t, rfl, rfl, hA, lA, hB, lB, hBT, hT, hB0⟩ := hR.two (by omega)
        simp only [List.length_append] at hln2
        have lB' : B.length = s := by
          rcases hBT with h | h
          · exact h
          · subst h; simp at hln2; omega
        have hs1 := sym_c F cap hcap key n (by omega) _ D A B T rfl (by omega) hB0 hA.s hB.s (fun x hx y hy => (asc_app k2).2.2 x (hA.p.mem_iff.1 hx) y (by simp [hB.p.mem_iff.1 hy])) (hcmp.sub fun x hx => hmem x (by rcases List.mem_append.1 hx with h | h <;> simp [h])) (by simp only [List.length_append]; omega)
        unfold SymC at hs1
        rw [lA, lB', Nat.add_assoc D.length s s] at hs1
        have hw5 : IntKind.i64.wrap (((D.length + (s + s) : Nat) : Int) + ((s + s : Nat) : Int)) = ((D.length + (s + s) + (s + s) : Nat) : Int) := by rw [w64 (by omega) (by omega)]; omega
        repeat' (first | refine xo 4000 rfl ?_ ?_ | refine xw 4000 rfl ?_ ?_ | refine xk 4000 rfl ?_ ?_ | exact trivial | ((with_reducible (show AllP (_ :: _))); refine And.intro ?_ ?_) | refine xs rfl ?_ ?_ | refine xs_done ?_ | refine pcond_t rfl ?_ | refine pcond_f rfl ?_ | refine kround_exit ?_ | refine kround_ret ?_ | refine kround_next ?_ | refine kloop_ret ?_ | refine kloop_exit ?_ | refine kcut_ret ?_ | refine kcut_exit ?_ | refine xo0 4000 rfl ?_ ?_ | refine xw0 4000 rfl ?_ ?_ | exact qq | fail)
        rw [hw4]
        refine pop_rowsc [0] rfl rfl rfl rfl rfl rfl (.cons rfl trivial (RowEq.cl (i_cl _ _)) .nil) hs1 ⟨PEq.refl _, PEq.refl _, PEq.refl _, PEq.refl _, PEq.cl _ hclo, trivial⟩ ?_
        rintro r rows ⟨rfl, M, g1, g2, rfl⟩
        refine ⟨_, _, rfl, ⟨i_cl _ _, trivial⟩, rfl, ?_⟩
        have lM : M.length = s + s := by rw [g1.length_eq, List.length_append]; omega
        have lDM : (D ++ M).length = D.length + (s + s) := by rw [List.length_append, lM]
        repeat' (first | refine xo 4000 rfl ?_ ?_ | refine xw 4000 rfl ?_ ?_ | refine xk 4000 rfl ?_ ?_ | exact trivial | ((with_reducible (show AllP (_ :: _))); refine And.intro ?_ ?_) | refine xs rfl ?_ ?_ | refine xs_done ?_ | refine pcond_t rfl ?_ | refine pcond_f rfl ?_ | refine kround_exit ?_ | refine kround_ret ?_ | refine kround_next ?_ | refine kloop_ret ?_ | refine kloop_exit ?_ | refine kcut_ret ?_ | refine kcut_exit ?_ | refine xo0 4000 rfl ?_ ?_ | refine xw0 4000 rfl ?_ ?_ | exact qq | fail)
        rw [hw2, hw5]
        exact kloop_next (st' := ⟨[(0, .lsl 0 0 n), (1, vi n), (2, .clo F 1 (fun _ => cap)), (6, vi (s : Nat)), (7, vi ((D ++ M).length : Nat)), (8, vi (((D ++ M).length + (s + s) : Nat) : Int))], [iRow n (lN ((D ++ M) ++ T))]⟩) T.length (by rw [lDM]; exact can_rowsv [0] (k0_sel hk rfl) rfl (.cons rfl (i_eq (Nat.le_refl _) (fun q hq => by show vi _ = vi _; rw [List.append_assoc])) .nil) (by exact ⟨PEq.refl _, PEq.refl _, PEq.cl _ hclo, PEq.refl _, PEq.refl _, PEq.refl _, trivial⟩)) (by simp only [List.length_append]; omega) ⟨D ++ M, d ++ (a ++ b), T, t, hD.snoc (merge_pc hA hB g1 g2) lM, hT, by rw [hl]; simp only [List.append_assoc], by omega, rfl, rfl⟩
      · repeat' (first | refine xo 4000 rfl ?_ ?_ | refine xw 4000 rfl ?_ ?_ | refine xk 4000 rfl ?_ ?_ | exact trivial | ((with_reducible (show AllP (_ :: _))); refine And.intro ?_ ?_) | refine xs rfl ?_ ?_ | refine xs_done ?_ | refine pcond_t rfl ?_ | refine pcond_f rfl ?_ | refine kround_exit ?_ | refine kround_ret ?_ | refine kround_next ?_ | refine kloop_ret ?_ | refine kloop_exit ?_ | refine kcut_ret ?_ | refine kcut_exit ?_ | refine xo0 4000 rfl ?_ ?_ | refine xw0 4000 rfl ?_ ?_ | exact qq | fail)
        rw [hw4]
        refine pcut (fun st => ∃ L : List Nat, Ch key (s + s) L l ∧ L.length = n ∧ st = ⟨[(0, .lsl 0 0 n), (1, vi n), (2, .clo F 1 (fun _ => cap)), (6, vi (s : Nat))], [iRow n (lN L)]⟩) ?_ ?_
        · refine pcond rfl ?_ ?_ <;> intro hc3 <;> simp at hc3
          · obtain ⟨A, B, T, a, b, t, rfl, rfl, hA, lA, hB, lB, hBT, hT, hB0⟩ := hR.two (by omega)
            simp only [List.length_append] at hln2
            have hTe : T = [] := by
              rcases hBT with h | h
              · exact List.length_eq_zero_iff.1 (by omega)
              · exact h
            subst hTe
            simp only [List.length_nil] at hln2
            have hte : t = [] := by simpa using hT.perm.symm
            subst hte
            have hs1 := sym_c F cap hcap key n (by omega) _ D A B [] rfl (by omega) hB0 hA.s hB.s (fun x hx y hy => (asc_app k2).2.2 x (hA.p.mem_iff.1 hx) y (by simp [hB.p.mem_iff.1 hy])) (hcmp.sub fun x hx => hmem x (by rcases List.mem_append.1 hx with h | h <;> simp [h])) (by simp only [List.length_append, List.length_nil]; omega)
            unfold SymC at hs1
            rw [lA, show D.length + s + B.length = n by omega] at hs1
            repeat' (first | refine xo 4000 rfl ?_ ?_ | refine xw 4000 rfl ?_ ?_ | refine xk 4000 rfl ?_ ?_ | exact trivial | ((with_reducible (show AllP (_ :: _))); refine And.intro ?_ ?_) | refine xs rfl ?_ ?_ | refine xs_done ?_ | refine pcond_t rfl ?_ | refine pcond_f rfl ?_ | refine kround_exit ?_ | refine kround_ret ?_ | refine kround_next ?_ | refine kloop_ret ?_ | refine kloop_exit ?_ | refine kcut_ret ?_ | refine kcut_exit ?_ | refine xo0 4000 rfl ?_ ?_ | refine xw0 4000 rfl ?_ ?_ | exact qq | fail)
            refine pop_rowsc [0] rfl rfl rfl rfl rfl rfl (.cons rfl trivial (RowEq.cl (i_cl _ _)) .nil) hs1 ⟨PEq.refl _, PEq.refl _, PEq.refl _, PEq.refl _, PEq.cl _ hclo, trivial⟩ ?_
            rintro r rows ⟨rfl, M, g1, g2, rfl⟩
            refine ⟨_, _, rfl, ⟨i_cl _ _, trivial⟩, rfl, ?_⟩
            have lM : M.length = A.length + B.length := by rw [g1.length_eq, List.length_append]
            repeat' (first | refine xo 4000 rfl ?_ ?_ | refine xw 4000 rfl ?_ ?_ | refine xk 4000 rfl ?_ ?_ | exact trivial | ((with_reducible (show AllP (_ :: _))); refine And.intro ?_ ?_) | refine xs rfl ?_ ?_ | refine xs_done ?_ | refine pcond_t rfl ?_ | refine pcond_f rfl ?_ | refine kround_exit ?_ | refine kround_ret ?_ | refine kround_next ?_ | refine kloop_ret ?_ | refine kloop_exit ?_ | refine kcut_ret ?_ | refine kcut_exit ?_ | refine xo0 4000 rfl ?_ ?_ | refine xw0 4000 rfl ?_ ?_ | exact qq | fail)
            exact kcut (st' := ⟨[(0, .lsl 0 0 n), (1, vi n), (2, .clo F 1 (fun _ => cap)), (6, vi (s : Nat))], [iRow n (lN (D ++ M))]⟩) (can_rowsv [0] (k0_sel hk rfl) rfl (.cons rfl (i_eq (Nat.le_refl _) (fun q hq => by show vi _ = vi _; rw [List.append_nil])) .nil) (by exact ⟨PEq.refl _, PEq.refl _, PEq.cl _ hclo, PEq.refl _, trivial⟩)) ⟨D ++ M, by rw [hl, List.append_nil]; exact hD.app (.last (merge_pc hA hB g1 g2) (by omega)), by rw [List.length_append]; omega, rfl⟩
          · repeat' (first | refine xo 4000 rfl ?_ ?_ | refine xw 4000 rfl ?_ ?_ | refine xk 4000 rfl ?_ ?_ | exact trivial | ((with_reducible (show AllP (_ :: _))); refine And.intro ?_ ?_) | refine xs rfl ?_ ?_ | refine xs_done ?_ | refine pcond_t rfl ?_ | refine pcond_f rfl ?_ | refine kround_exit ?_ | refine kround_ret ?_ | refine kround_next ?_ | refine kloop_ret ?_ | refine kloop_exit ?_ | refine kcut_ret ?_ | refine kcut_exit ?_ | refine xo0 4000 rfl ?_ ?_ | refine xw0 4000 rfl ?_ ?_ | exact qq | fail)
            exact kcut (st' := ⟨[(0, .lsl 0 0 n), (1, vi n), (2, .clo F 1 (fun _ => cap)), (6, vi (s : Nat))], [iRow n (lN (D ++ R))]⟩) (can_rowsv [0] (k0_sel hk rfl) rfl (.cons rfl rqq .nil) (by exact ⟨PEq.refl _, PEq.refl _, PEq.cl _ hclo, PEq.refl _, trivial⟩)) ⟨D ++ R, by rw [hl]; exact hD.app (.last (hR.short (by omega)) (by omega)), by rw [List.length_append]; omega, rfl⟩
        · rintro _ ⟨L, hC, hLn, rfl⟩
          repeat' (first | refine xo 4000 rfl ?_ ?_ | refine xw 4000 rfl ?_ ?_ | refine xk 4000 rfl ?_ ?_ | exact trivial | ((with_reducible (show AllP (_ :: _))); refine And.intro ?_ ?_) | refine xs rfl ?_ ?_ | refine xs_done ?_ | refine pcond_t rfl ?_ | refine pcond_f rfl ?_ | refine kround_exit ?_ | refine kround_ret ?_ | refine kround_next ?_ | refine kloop_ret ?_ | refine kloop_exit ?_ | refine kcut_ret ?_ | refine kcut_exit ?_ | refine xo0 4000 rfl ?_ ?_ | refine xw0 4000 rfl ?_ ?_ | exact qq | fail)
          rw [hw3]
          exact kloop_next (st' := ⟨[(0, .lsl 0 0 n), (1, vi n), (2, .clo F 1 (fun _ => cap)), (6, vi ((s + s : Nat) : Int))], [iRow n (lN L)]⟩) (n - (s + s)) (can_rowsv [0] (k0_sel hk rfl) rfl (.cons rfl rqq .nil) (by exact ⟨PEq.refl _, PEq.refl _, PEq.cl _ hclo, PEq.refl _, trivial⟩)) (by omega) ⟨s + s, L, hC, hLn, by omega, by omega, rfl, rfl⟩
    · have hp := hC.short (by omega)
      repeat' (first | refine xo 4000 rfl ?_ ?_ | refine xw 4000 rfl ?_ ?_ | refine xk 4000 rfl ?_ ?_ | exact trivial | ((with_reducible (show AllP (_ :: _))); refine And.intro ?_ ?_) | refine xs rfl ?_ ?_ | refine xs_done ?_ | refine pcond_t rfl ?_ | refine pcond_f rfl ?_ | refine kround_exit ?_ | refine kround_ret ?_ | refine kround_next ?_ | refine kloop_ret ?_ | refine kloop_exit ?_ | refine kcut_ret ?_ | refine kcut_exit ?_ | refine xo0 4000 rfl ?_ ?_ | refine xw0 4000 rfl ?_ ?_ | exact qq | fail)
      exact kretrn (can_rows [0] (k0_sel hk rfl) rfl (by (repeat (refine SelOk.cons rfl trivial (by first | exact RowEq.cl (i_cl _ _) | exact RowEq.cl (tape_cl _ _ _) | exact i_eq (Nat.le_refl _) (fun _ _ => rfl) | exact var_eq (by (repeat refine ⟨PEq.refl _, ?_⟩); exact trivial)) ?_)); exact SelOk.nil) (tm := []) (by (repeat (first | refine ⟨PEq.refl _, ?_⟩ | refine ⟨PEq.cl _ (by assumption), ?_⟩)); exact trivial)) rfl trivial rfl ⟨rfl, L, hp.p, hp.s, rfl⟩
theorem sortStableA_c (F : FuncId) (cap : PV) (key : Nat → Int) (l : List Nat) (n : Nat) (hn : l.length = n) (hnB : n ≤ 100000) (hasc : l.Pairwise (· < ·)) (hcap : clB cap = true) (hcmp : CmpC F cap key l) :
    RowsC G.P 51 [iRow n (lN l)] [.lsl 0 0 n, .clo F 1 (fun _ => cap)] (fun r rows => r = .tup 0 (nthP []) ∧ ∃ l' : List Nat, l'.Perm l ∧ l'.Pairwise (RB key) ∧ rows = [iRow n (lN l')]) := by
  have hclo : Cl (.clo F 1 (fun _ => cap)) := fun _ _ => clB_spec cap hcap
  have hst := stable_c F cap key l n hn hnB hasc hcap hcmp
  unfold StC at hst
  refine rows_of (G := G.toPg) (fn := Try.f51) Try.func51 rfl rfl rfl ?_; intro Γ hk
  repeat' (first | ((with_reducible (show POps _ _ _ _ (_ :: _) _ _)); (first | refine pop_read rfl rfl rfl rfl trivial ?_ | refine pop_guard rfl rfl rfl rfl rfl qgd ?_ | refine pop_new rfl rfl rfl rfl trivial ?_ | refine pop_store rfl rfl rfl Nat.zero_lt_one ?_ | refine pop_read rfl rfl rfl rfl qrd ?_ | refine pop_read2 rfl rfl rfl rfl trivial ?_ | refine pop_store rfl rfl rfl qst ?_ | fail)) | refine pnil ?_ | refine kround_exit ?_ | refine kround_ret ?_ | refine kround_next ?_ | refine kseq_normal ?_ | refine pseq ?_ | refine pregion ?_ | refine pret ?_ | refine kseq_ret ?_ | refine pskip ?_ | refine pblock ?_ | refine pexit ?_ | refine kseq_exit ?_ | refine kblock_hit rfl ?_ | refine kblock_miss rfl ?_ | refine kblock_ret ?_ | refine kblock_normal ?_ | refine kloop_ret ?_ | refine kloop_exit ?_ | refine kcut_ret ?_ | refine kcut_exit ?_ | refine pcond_t rfl ?_ | refine pcond_f rfl ?_ | (with_reducible (show POps _ _ _ _ _ _ _); simp only [List.append_eq, List.cons_append, List.nil_append]))
  refine pop_rows [0] rfl rfl rfl rfl rfl rfl (.cons rfl trivial (RowEq.cl (i_cl _ _)) .nil) hst ⟨PEq.refl _, PEq.refl _, PEq.cl _ hclo, trivial⟩ ?_
  rintro r rows ⟨rfl, l', h1, h2, rfl⟩
  refine ⟨_, _, rfl, rfl, ?_⟩
  repeat' (first | ((with_reducible (show POps _ _ _ _ (_ :: _) _ _)); (first | refine pop_read rfl rfl rfl rfl trivial ?_ | refine pop_guard rfl rfl rfl rfl rfl qgd ?_ | refine pop_new rfl rfl rfl rfl trivial ?_ | refine pop_store rfl rfl rfl Nat.zero_lt_one ?_ | refine pop_read rfl rfl rfl rfl qrd ?_ | refine pop_read2 rfl rfl rfl rfl trivial ?_ | refine pop_store rfl rfl rfl qst ?_ | fail)) | refine pnil ?_ | refine kround_exit ?_ | refine kround_ret ?_ | refine kround_next ?_ | refine kseq_normal ?_ | refine pseq ?_ | refine pregion ?_ | refine pret ?_ | refine kseq_ret ?_ | refine pskip ?_ | refine pblock ?_ | refine pexit ?_ | refine kseq_exit ?_ | refine kblock_hit rfl ?_ | refine kblock_miss rfl ?_ | refine kblock_ret ?_ | refine kblock_normal ?_ | refine kloop_ret ?_ | refine kloop_exit ?_ | refine kcut_ret ?_ | refine kcut_exit ?_ | refine pcond_t rfl ?_ | refine pcond_f rfl ?_ | (with_reducible (show POps _ _ _ _ _ _ _); simp only [List.append_eq, List.cons_append, List.nil_append]))
  exact kretrn (can_rows [0] (k0_sel hk rfl) rfl (by (repeat (refine SelOk.cons rfl trivial (by first | exact RowEq.cl (i_cl _ _) | exact RowEq.cl (tape_cl _ _ _) | exact i_eq (Nat.le_refl _) (fun _ _ => rfl) | exact var_eq (by (repeat refine ⟨PEq.refl _, ?_⟩); exact trivial)) ?_)); exact SelOk.nil) (tm := []) (by (repeat (first | refine ⟨PEq.refl _, ?_⟩ | refine ⟨PEq.cl _ (by assumption), ?_⟩)); exact trivial)) rfl trivial rfl ⟨rfl, l', h1, h2, rfl⟩
end Go.Proofs.Ytppjjhnaahgmhaa
