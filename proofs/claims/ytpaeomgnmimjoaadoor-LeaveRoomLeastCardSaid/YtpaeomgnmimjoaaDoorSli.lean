/- slices.IndexFunc, DeleteFunc at numbers. -/
import Derived.Test.YtpaeomgnmimjoaaDoorPvClr
import Derived.Test.YtpaeomgnmimjoaaDoorPvTap
set_option linter.unusedSimpArgs false
set_option linter.unusedVariables false
set_option maxRecDepth 100000
namespace Go.Proofs.YtpaeomgnmimjoaaDoor
/-- a closure of two captured values that tests a number -/
structure PrdC (F : FuncId) (c : Nat → PV) (p : Int → Bool) : Prop where
  c0 : Cl (c 0)
  c1 : Cl (c 1)
  run : ∀ x, PureC G.P F [vi x, c 0, c 1] (fun r => r = vb (p x))
theorem PrdC.cl {F : FuncId} {c : Nat → PV} {p : Int → Bool} (h : PrdC F c p) : Cl (.clo F 2 c) := fun i hi => by
  rcases (by omega : i = 0 ∨ i = 1) with rfl | rfl
  · exact h.c0
  · exact h.c1
theorem PrdC.eq {F : FuncId} {c : Nat → PV} {p : Int → Bool} (h : PrdC F c p) {τ : Nat → Option Nat} : PEq ((PV.clo F 2 c).ren τ) (.clo F 2 c) := PEq.cl _ h.cl
theorem indexFunc_c (n : Nat) (g : Nat → Int) (F : FuncId) (c : Nat → PV) (p : Int → Bool) (hF : PrdC F c p) (hn : n ≤ 1000000000) :
    PureC G.P 30 [.vsl n 1 (tI g), .clo F 2 c] (fun r => ∃ i : Nat, i ≤ n ∧ (∀ j, j < i → p (g j) = false) ∧ ((i < n ∧ p (g i) = true ∧ r = vi i) ∨ (i = n ∧ r = vi (-1)))) := by
  refine pure_of (G := G.toPg) (fn := Tryd.f30) Tryd.func30 rfl rfl rfl ?_; intro Γ hk
  repeat' (first | refine yo ?_ ?_ | refine yw ?_ ?_ | refine yk ?_ ?_ | exact trivial | with_reducible refine wA ?_ ?_ | refine ys ?_ ?_ | refine xs_done ?_ | refine yl ?_ ?_ | refine w8 ?_ | refine w9 ?_ | refine w1 ?_ | refine w2 ?_ | refine w3 ?_ | refine w4 ?_ | refine w5 ?_ | refine w6 ?_ | refine w7 ?_ | refine yo0 ?_ ?_ | refine yw0 ?_ ?_ | exact qq | fail)
  refine pcan (st' := ⟨[(0, .vsl n 1 (tI g)), (1, .clo F 2 c), (7, vi n), (8, vi ((0 : Nat) : Int))], []⟩) (can_rowsv [] (k0_sel hk rfl) rfl .nil (by exact ⟨PEq.refl _, hF.eq, PEq.refl _, PEq.refl _, trivial⟩)) ?_
  refine ploop (fun q st => ∃ i : Nat, i ≤ n ∧ (∀ j, j < i → p (g j) = false) ∧ q = n - i ∧ st = ⟨[(0, .vsl n 1 (tI g)), (1, .clo F 2 c), (7, vi n), (8, vi i)], []⟩) n ⟨0, by omega, fun j hj => by omega, rfl, rfl⟩ ?_
  rintro _ _ ⟨i, hi, hv, rfl, rfl⟩
  repeat' (first | refine yo ?_ ?_ | refine yw ?_ ?_ | refine yk ?_ ?_ | exact trivial | with_reducible refine wA ?_ ?_ | refine ys ?_ ?_ | refine xs_done ?_ | refine yl ?_ ?_ | refine w8 ?_ | refine w9 ?_ | refine w1 ?_ | refine w2 ?_ | refine w3 ?_ | refine w4 ?_ | refine w5 ?_ | refine w6 ?_ | refine w7 ?_ | refine yo0 ?_ ?_ | refine yw0 ?_ ?_ | exact qq | fail)
  refine pcond rfl ?_ ?_ <;> intro hc <;> simp at hc
  · repeat' (first | refine yo ?_ ?_ | refine yw ?_ ?_ | refine yk ?_ ?_ | exact trivial | with_reducible refine wA ?_ ?_ | refine ys ?_ ?_ | refine xs_done ?_ | refine yl ?_ ?_ | refine w8 ?_ | refine w9 ?_ | refine w1 ?_ | refine w2 ?_ | refine w3 ?_ | refine w4 ?_ | refine w5 ?_ | refine w6 ?_ | refine w7 ?_ | refine yo0 ?_ ?_ | refine yw0 ?_ ?_ | exact qq | fail)
    refine pop_rowsc [] rfl rfl rfl rfl rfl rfl .nil (pure_rows (hF.run (g i))) (by exact ⟨PEq.refl _, PEq.cl _ hF.c0, PEq.cl _ hF.c1, trivial⟩) ?_
    rintro _ _ ⟨rfl, rfl⟩
    refine ⟨_, _, rfl, trivial, rfl, ?_⟩
    cases hp : p (g i) with
    | true =>
      repeat' (first | refine yo ?_ ?_ | refine yw ?_ ?_ | refine yk ?_ ?_ | exact trivial | with_reducible refine wA ?_ ?_ | refine ys ?_ ?_ | refine xs_done ?_ | refine yl ?_ ?_ | refine w8 ?_ | refine w9 ?_ | refine w1 ?_ | refine w2 ?_ | refine w3 ?_ | refine w4 ?_ | refine w5 ?_ | refine w6 ?_ | refine w7 ?_ | refine yo0 ?_ ?_ | refine yw0 ?_ ?_ | exact qq | fail)
      exact kret [] rfl ⟨trivial, trivial⟩ (qs := [vi i]) ⟨argVal, trivial⟩ ⟨i, by omega, hv, .inl ⟨hc, hp, rfl⟩⟩
    | false =>
      repeat' (first | refine yo ?_ ?_ | refine yw ?_ ?_ | refine yk ?_ ?_ | exact trivial | with_reducible refine wA ?_ ?_ | refine ys ?_ ?_ | refine xs_done ?_ | refine yl ?_ ?_ | refine w8 ?_ | refine w9 ?_ | refine w1 ?_ | refine w2 ?_ | refine w3 ?_ | refine w4 ?_ | refine w5 ?_ | refine w6 ?_ | refine w7 ?_ | refine yo0 ?_ ?_ | refine yw0 ?_ ?_ | exact qq | fail)
      rw [show IntKind.i64.wrap ((i : Int) + 1) = ((i + 1 : Nat) : Int) from w64 (by omega) (by omega)]
      exact kloop_next (st' := ⟨[(0, .vsl n 1 (tI g)), (1, .clo F 2 c), (7, vi n), (8, vi ((i + 1 : Nat) : Int))], []⟩) (n - (i + 1)) (can_rowsv [] (k0_sel hk rfl) rfl .nil (by exact ⟨PEq.refl _, hF.eq, PEq.refl _, PEq.refl _, trivial⟩)) (by omega) ⟨i + 1, by omega, fun j hj => by
        by_cases e : j = i
        · subst e; exact hp
        · exact hv j (by omega), rfl, rfl⟩
  · have hin : i = n := by omega
    subst hin
    repeat' (first | refine yo ?_ ?_ | refine yw ?_ ?_ | refine yk ?_ ?_ | exact trivial | with_reducible refine wA ?_ ?_ | refine ys ?_ ?_ | refine xs_done ?_ | refine yl ?_ ?_ | refine w8 ?_ | refine w9 ?_ | refine w1 ?_ | refine w2 ?_ | refine w3 ?_ | refine w4 ?_ | refine w5 ?_ | refine w6 ?_ | refine w7 ?_ | refine yo0 ?_ ?_ | refine yw0 ?_ ?_ | exact qq | fail)
    exact kret [] rfl ⟨trivial, trivial⟩ (qs := [vi (-1)]) ⟨argVal, trivial⟩ ⟨i, by omega, hv, .inr ⟨rfl, rfl⟩⟩
theorem lF_get' {l : List Int} {i : Nat} (h : i < l.length) : lF 0 l i = l[i] := by
  unfold lF; rw [List.getD_eq_getElem?_getD, List.getElem?_eq_getElem h]; rfl
theorem filt_step {D : List Int} {q : Int → Bool} {j : Nat} (h : j < D.length) : (D.take (j + 1)).filter q = (D.take j).filter q ++ (if q (lF 0 D j) = true then [lF 0 D j] else []) := by
  rw [List.take_add_one, List.getElem?_eq_getElem h, List.filter_append, lF_get' h]
  simp only [Option.toList_some, List.filter_cons, List.filter_nil]
theorem filt_len {D : List Int} {q : Int → Bool} (j : Nat) : ((D.take j).filter q).length ≤ j := Nat.le_trans (List.length_filter_le _ _) (by simp; omega)
theorem hu_int : G.P.underlying 22 = some (.slice 3) := Tryd.underlying22
theorem hz_int : ∀ w, (zeroValue 3).run G.P w = .ok (.int .i64 0) w := Tryd.zeroValue3
theorem deleteFunc_r (n : Nat) (D : List Int) (hD : D.length = n) (F : FuncId) (c : Nat → PV) (p : Int → Bool) (hF : PrdC F c p) (hn : n ≤ 1000000000) :
    RowsC G.P 24 [iRow n (lF 0 D)] [.lsl 0 0 n, .clo F 2 c] (fun r rows => r = .lsl 0 0 (D.filter fun x => !p x).length ∧ rows = [iRow (D.filter fun x => !p x).length (lF 0 (D.filter fun x => !p x))]) := by
  have c1 := indexFunc_c n (lF 0 D) F c p hF hn
  refine rows_of (G := G.toPg) (fn := Tryd.f24) Tryd.func24 rfl rfl rfl ?_; intro Γ hk
  repeat' (first | refine yo ?_ ?_ | refine yw ?_ ?_ | refine yk ?_ ?_ | exact trivial | with_reducible refine wA ?_ ?_ | refine ys ?_ ?_ | refine xs_done ?_ | refine yl ?_ ?_ | refine w8 ?_ | refine w9 ?_ | refine w1 ?_ | refine w2 ?_ | refine w3 ?_ | refine w4 ?_ | refine w5 ?_ | refine w6 ?_ | refine w7 ?_ | refine yo0 ?_ ?_ | refine yw0 ?_ ?_ | exact qq | fail)
  refine pop_call [0] rfl rfl rfl rfl rfl c1 ⟨argLsl (r := iRow n (lF 0 D)) rfl trivial (List.Mem.head _) (by show 0 + n ≤ n; omega) (fun a ha b hb => ⟨by rw [Nat.zero_add]; rfl, trivial⟩), argCl hF.cl, trivial⟩ ?_
  rintro _ ⟨i, hi, hv, ⟨hin, hp, rfl⟩ | ⟨rfl, rfl⟩⟩
  · refine ⟨trivial, ?_⟩
    have hfi : ∀ j, j ≤ i → (D.take j).filter (fun x => !p x) = D.take j := fun j hj => by
      rw [List.filter_eq_self]
      intro x hx
      obtain ⟨q, hq, rfl⟩ := List.getElem_of_mem hx
      have hq2 : q < j := by simp at hq; omega
      have := hv q (by omega)
      rw [lF_get' (by omega)] at this
      rw [List.getElem_take]
      simp [this]
    have hf1 : (D.take (i + 1)).filter (fun x => !p x) = D.take i := by
      rw [filt_step (by omega), hfi i (Nat.le_refl _), if_neg (by simp [hp])]; simp
    have hw0 : IntKind.i64.wrap ((i : Int) + 1) = ((i + 1 : Nat) : Int) := w64 (by omega) (by omega)
    repeat' (first | refine yo ?_ ?_ | refine yw ?_ ?_ | refine yk ?_ ?_ | exact trivial | with_reducible refine wA ?_ ?_ | refine ys ?_ ?_ | refine xs_done ?_ | refine yl ?_ ?_ | refine w8 ?_ | refine w9 ?_ | refine w1 ?_ | refine w2 ?_ | refine w3 ?_ | refine w4 ?_ | refine w5 ?_ | refine w6 ?_ | refine w7 ?_ | refine yo0 ?_ ?_ | refine yw0 ?_ ?_ | exact qq | fail)
    rw [hw0]
    refine pcan (st' := ⟨[(0, .lsl 0 0 n), (1, .clo F 2 c), (5, vi i), (6, vi ((i + 1 : Nat) : Int))], [iRow n (lF 0 D)]⟩) (can_rowsv [0] (k0_sel hk rfl) rfl (.cons rfl rqq .nil) (by exact ⟨PEq.refl _, hF.eq, PEq.refl _, PEq.refl _, trivial⟩)) ?_
    refine ploop (fun q st => ∃ (j k : Nat) (f : Nat → Int), j ≤ n ∧ k < j ∧ k = ((D.take j).filter fun x => !p x).length ∧ (∀ a, a < k → f a = lF 0 ((D.take j).filter fun x => !p x) a) ∧ (∀ a, j ≤ a → f a = lF 0 D a) ∧ q = n - j ∧ st = ⟨[(0, .lsl 0 0 n), (1, .clo F 2 c), (5, vi k), (6, vi j)], [iRow n f]⟩) (n - (i + 1)) ⟨i + 1, i, lF 0 D, by omega, by omega, by rw [hf1]; simp; omega, fun a ha => by rw [hf1]; rw [lF_get' (by omega), lF_get' (by simp; omega), List.getElem_take], fun a ha => rfl, rfl, rfl⟩ ?_
    rintro _ _ ⟨j, k, f, hj, hkj, hkl, hf, hg, rfl, rfl⟩
    repeat' (first | refine yo ?_ ?_ | refine yw ?_ ?_ | refine yk ?_ ?_ | exact trivial | with_reducible refine wA ?_ ?_ | refine ys ?_ ?_ | refine xs_done ?_ | refine yl ?_ ?_ | refine w8 ?_ | refine w9 ?_ | refine w1 ?_ | refine w2 ?_ | refine w3 ?_ | refine w4 ?_ | refine w5 ?_ | refine w6 ?_ | refine w7 ?_ | refine yo0 ?_ ?_ | refine yw0 ?_ ?_ | exact qq | fail)
    refine pcond rfl ?_ ?_ <;> intro hc <;> simp at hc
    · have hw1 : IntKind.i64.wrap ((j : Int) + 1) = ((j + 1 : Nat) : Int) := w64 (by omega) (by omega)
      have hw2 : IntKind.i64.wrap ((k : Int) + 1) = ((k + 1 : Nat) : Int) := w64 (by omega) (by omega)
      have hst := filt_step (D := D) (q := fun x => !p x) (j := j) (by omega)
      repeat' (first | refine yo ?_ ?_ | refine yw ?_ ?_ | refine yk ?_ ?_ | exact trivial | with_reducible refine wA ?_ ?_ | refine ys ?_ ?_ | refine xs_done ?_ | refine yl ?_ ?_ | refine w8 ?_ | refine w9 ?_ | refine w1 ?_ | refine w2 ?_ | refine w3 ?_ | refine w4 ?_ | refine w5 ?_ | refine w6 ?_ | refine w7 ?_ | refine yo0 ?_ ?_ | refine yw0 ?_ ?_ | exact qq | fail)
      refine pop_rowsc [] rfl rfl rfl rfl rfl rfl .nil (pure_rows (hF.run (lF 0 D j))) (by exact ⟨PEq.of (by show vi (f (0 + (j : Int).toNat)) = _; rw [show 0 + (j : Int).toNat = j by omega, hg j (Nat.le_refl _)]), PEq.cl _ hF.c0, PEq.cl _ hF.c1, trivial⟩) ?_
      rintro _ _ ⟨rfl, rfl⟩
      refine ⟨_, _, rfl, trivial, rfl, ?_⟩
      cases hpj : p (lF 0 D j) with
      | true =>
        rw [if_neg (by simp [hpj]), List.append_nil] at hst
        repeat' (first | refine yo ?_ ?_ | refine yw ?_ ?_ | refine yk ?_ ?_ | exact trivial | with_reducible refine wA ?_ ?_ | refine ys ?_ ?_ | refine xs_done ?_ | refine yl ?_ ?_ | refine w8 ?_ | refine w9 ?_ | refine w1 ?_ | refine w2 ?_ | refine w3 ?_ | refine w4 ?_ | refine w5 ?_ | refine w6 ?_ | refine w7 ?_ | refine yo0 ?_ ?_ | refine yw0 ?_ ?_ | exact qq | fail)
        rw [hw1]
        exact kloop_next (st' := ⟨[(0, .lsl 0 0 n), (1, .clo F 2 c), (5, vi k), (6, vi ((j + 1 : Nat) : Int))], [iRow n f]⟩) (n - (j + 1)) (can_rowsv [0] (k0_sel hk rfl) rfl (.cons rfl rqq .nil) (by exact ⟨PEq.refl _, hF.eq, PEq.refl _, PEq.refl _, trivial⟩)) (by omega) ⟨j + 1, k, f, by omega, by omega, by rw [hst]; exact hkl, by rw [hst]; exact hf, fun a ha => hg a (by omega), rfl, rfl⟩
      | false =>
        rw [if_pos (by simp [hpj])] at hst
        have hlen : ((D.take (j + 1)).filter fun x => !p x).length = k + 1 := by rw [hst, List.length_append, ← hkl]; rfl
        repeat' (first | refine yo ?_ ?_ | refine yw ?_ ?_ | refine yk ?_ ?_ | exact trivial | with_reducible refine wA ?_ ?_ | refine ys ?_ ?_ | refine xs_done ?_ | refine yl ?_ ?_ | refine w8 ?_ | refine w9 ?_ | refine w1 ?_ | refine w2 ?_ | refine w3 ?_ | refine w4 ?_ | refine w5 ?_ | refine w6 ?_ | refine w7 ?_ | refine yo0 ?_ ?_ | refine yw0 ?_ ?_ | exact qq | fail)
        rw [hw1, hw2]
        have hg2 : ∀ a, k < a → (upd f k (f j)) a = f a := fun a ha => if_neg (by omega)
        have hg3 : (upd f k (f j)) k = lF 0 D j := by unfold upd; rw [if_pos rfl, hg j (Nat.le_refl _)]
        have hg4 : ∀ a, a < k → (upd f k (f j)) a = f a := fun a ha => if_neg (by omega)
        refine kloop_next (st' := ⟨[(0, .lsl 0 0 n), (1, .clo F 2 c), (5, vi ((k + 1 : Nat) : Int)), (6, vi ((j + 1 : Nat) : Int))], [iRow n (upd f k (f j))]⟩) (n - (j + 1)) (can_rowsv [0] (k0_sel hk rfl) rfl (.cons rfl (i_eq (Nat.le_refl _) fun a ha => ?_) .nil) (by exact ⟨PEq.refl _, hF.eq, PEq.refl _, PEq.refl _, trivial⟩)) (by omega) ⟨j + 1, k + 1, _, by omega, by omega, hlen.symm, fun a ha => ?_, fun a ha => by rw [hg2 a (by omega)]; exact hg a (by omega), rfl, rfl⟩
        · show updR (tI f) (0 + (k : Int).toNat) [vi (f (0 + (j : Int).toNat))] a 0 = _
          rw [show 0 + (k : Int).toNat = k by omega, show 0 + (j : Int).toNat = j by omega]
          exact upd_eq f k (f j) a 0 rfl
        · by_cases e : a = k
          · subst e
            rw [hg3, hst]
            have := lF_at (d := 0) (y := lF 0 D j) (l := (D.take j).filter fun x => !p x) (r := [])
            rw [← hkl] at this; exact this.symm
          · rw [hg4 a (by omega), hf a (by omega), hst, lF_lt (by omega)]
    · have hjn : j = n := by omega
      subst hjn
      have hT : D.take j = D := by rw [← hD]; simp
      rw [hT] at hkl hf
      rw [← hkl]
      repeat' (first | refine yo ?_ ?_ | refine yw ?_ ?_ | refine yk ?_ ?_ | exact trivial | with_reducible refine wA ?_ ?_ | refine ys ?_ ?_ | refine xs_done ?_ | refine yl ?_ ?_ | refine w8 ?_ | refine w9 ?_ | refine w1 ?_ | refine w2 ?_ | refine w3 ?_ | refine w4 ?_ | refine w5 ?_ | refine w6 ?_ | refine w7 ?_ | refine yo0 ?_ ?_ | refine yw0 ?_ ?_ | exact qq | fail)
      show POps _ _ _ _ (_ :: _) _ _
      refine pop_clear (G := G.toPg) hu_int hz_int rfl rfl rfl rfl rfl rfl rfl rfl ?_
      repeat' (first | refine yo ?_ ?_ | refine yw ?_ ?_ | refine yk ?_ ?_ | exact trivial | with_reducible refine wA ?_ ?_ | refine ys ?_ ?_ | refine xs_done ?_ | refine yl ?_ ?_ | refine w8 ?_ | refine w9 ?_ | refine w1 ?_ | refine w2 ?_ | refine w3 ?_ | refine w4 ?_ | refine w5 ?_ | refine w6 ?_ | refine w7 ?_ | refine yo0 ?_ ?_ | refine yw0 ?_ ?_ | exact qq | fail)
      · exact ⟨trivial, trivial, by omega, by omega, by omega⟩
      refine xdone ?_
      refine kretr (st' := ⟨[(4, .lsl 0 0 k)], [iRow k (lF 0 (D.filter fun x => !p x))]⟩) (can_rowsv [0] (k0_sel hk rfl) rfl (.cons rfl (i_eq (by show k ≤ j; omega) fun a ha => ?_) .nil) (by exact ⟨PEq.of (by show PV.lsl 0 0 _ = _; congr 1), trivial⟩)) rfl ⟨trivial, trivial⟩ rfl ⟨rfl, rfl⟩
      show clrF _ _ (tI f) a 0 = _
      unfold clrF
      rw [if_neg (by omega)]
      · show vi (f a) = _
        rw [hf a ha]
      · exact ⟨trivial, trivial, by omega, by omega, by omega⟩
  · refine ⟨trivial, ?_⟩
    have hM : (D.filter fun x => !p x) = D := by
      rw [List.filter_eq_self]
      intro x hx
      obtain ⟨j, hj, rfl⟩ := List.getElem_of_mem hx
      have := hv j (by omega)
      rw [lF_get' hj] at this
      simp [this]
    rw [hM, hD]
    repeat' (first | refine yo ?_ ?_ | refine yw ?_ ?_ | refine yk ?_ ?_ | exact trivial | with_reducible refine wA ?_ ?_ | refine ys ?_ ?_ | refine xs_done ?_ | refine yl ?_ ?_ | refine w8 ?_ | refine w9 ?_ | refine w1 ?_ | refine w2 ?_ | refine w3 ?_ | refine w4 ?_ | refine w5 ?_ | refine w6 ?_ | refine w7 ?_ | refine yo0 ?_ ?_ | refine yw0 ?_ ?_ | exact qq | fail)
    refine xdone ?_
    exact kretr (st' := ⟨[(4, .lsl 0 0 i)], [iRow i (lF 0 D)]⟩) (can_rowsv [0] (k0_sel hk rfl) rfl (by (repeat (refine SelV.cons rfl rqq ?_)); exact SelV.nil) tmq) rfl ⟨trivial, trivial⟩ rfl ⟨rfl, rfl⟩
end Go.Proofs.YtpaeomgnmimjoaaDoor
