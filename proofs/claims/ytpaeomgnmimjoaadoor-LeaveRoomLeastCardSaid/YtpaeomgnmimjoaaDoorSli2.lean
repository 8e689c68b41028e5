/- slices.Compact at numbers in ascending order. -/
import Derived.Test.YtpaeomgnmimjoaaDoorSli
set_option linter.unusedSimpArgs false
set_option linter.unusedVariables false
set_option maxRecDepth 100000
namespace Go.Proofs.YtpaeomgnmimjoaaDoor
/-- M has the elements of D, each once, in ascending order -/
structure CmpR (D M : List Int) : Prop where
  srt : M.Pairwise (· < ·)
  mem : ∀ x, x ∈ M ↔ x ∈ D
theorem CmpR.le_last {D M : List Int} (h : CmpR D M) : M.Pairwise (· < ·) := h.srt
theorem cmpR_snoc {D : List Int} (hS : D.Pairwise (· ≤ ·)) {q : Nat} (hq : q < D.length) (h0 : 0 < q) {M : List Int} (h : CmpR (D.take q) M) :
    (lF 0 D q = lF 0 D (q - 1) → CmpR (D.take (q + 1)) M) ∧ (lF 0 D q ≠ lF 0 D (q - 1) → CmpR (D.take (q + 1)) (M ++ [lF 0 D q])) := by
  have e1 := lF_get' hq
  have e0 := lF_get' (show q - 1 < D.length by omega)
  have ht : D.take (q + 1) = D.take q ++ [lF 0 D q] := by rw [List.take_add_one, List.getElem?_eq_getElem hq, e1]; rfl
  have hin : lF 0 D (q - 1) ∈ D.take q := by
    rw [e0, List.mem_take_iff_getElem]
    exact ⟨q - 1, by omega, rfl⟩
  have hle : ∀ x, x ∈ D.take q → x ≤ lF 0 D (q - 1) := fun x hx => by
    obtain ⟨j, hj, rfl⟩ := List.mem_take_iff_getElem.1 hx
    rw [e0]
    by_cases hjq : j = q - 1
    · subst hjq; exact Int.le_refl _
    · exact List.pairwise_iff_getElem.1 hS j (q - 1) (by omega) (by omega) (by omega)
  have hle2 : lF 0 D (q - 1) ≤ lF 0 D q := by
    rw [e0, e1]; exact List.pairwise_iff_getElem.1 hS (q - 1) q (by omega) hq (by omega)
  constructor
  · intro e
    refine ⟨h.srt, fun x => ?_⟩
    rw [ht, List.mem_append, h.mem]
    constructor
    · exact .inl
    · rintro (hx | hx)
      · exact hx
      · rw [List.mem_singleton.1 hx, e]; exact hin
  · intro e
    refine ⟨?_, fun x => by rw [ht, List.mem_append, List.mem_append, h.mem]⟩
    rw [List.pairwise_append]
    refine ⟨h.srt, by simp, fun a ha b hb => ?_⟩
    have ha2 := hle a ((h.mem a).1 ha)
    rw [List.mem_singleton.1 hb]; omega
theorem cmpR_take {D : List Int} (hS : D.Pairwise (· ≤ ·)) {k : Nat} (hk : k ≤ D.length) (h : ∀ a, 1 ≤ a → a < k → lF 0 D a ≠ lF 0 D (a - 1)) : CmpR (D.take k) (D.take k) := by
  refine ⟨?_, fun x => Iff.rfl⟩
  induction k with
  | zero => simp
  | succ k ih =>
    have ih := ih (by omega) fun a h1 h2 => h a h1 (by omega)
    by_cases h0 : k = 0
    · subst h0
      rw [List.take_add_one]; simp
    · have ht : D.take (k + 1) = D.take k ++ [lF 0 D k] := by rw [List.take_add_one, List.getElem?_eq_getElem (by omega), lF_get' (by omega)]; rfl
      rw [ht]
      exact ((cmpR_snoc hS (q := k) (by omega) (by omega) ⟨ih, fun x => Iff.rfl⟩).2 (h k (by omega) (by omega))).srt
set_option maxHeartbeats 1000000 in
theorem compact_r (n : Nat) (D : List Int) (hD : D.length = n) (hS : D.Pairwise (· ≤ ·)) (hn : n ≤ 1000000000) :
    RowsC G.P 27 [iRow n (lF 0 D)] [.lsl 0 0 n] (fun r rows => ∃ M, CmpR D M ∧ r = .lsl 0 0 M.length ∧ rows = [iRow M.length (lF 0 M)]) := by
  refine rows_of (G := G.toPg) (fn := Tryd.f27) Tryd.func27 rfl rfl rfl ?_; intro Γ hk
  repeat' (first | refine yo ?_ ?_ | refine yw ?_ ?_ | refine yk ?_ ?_ | exact trivial | with_reducible refine wA ?_ ?_ | refine ys ?_ ?_ | refine xs_done ?_ | refine yl ?_ ?_ | refine w8 ?_ | refine w9 ?_ | refine w1 ?_ | refine w2 ?_ | refine w3 ?_ | refine w4 ?_ | refine w5 ?_ | refine w6 ?_ | refine w7 ?_ | refine yo0 ?_ ?_ | refine yw0 ?_ ?_ | exact qq | fail)
  refine pcond rfl ?_ ?_ <;> intro hc <;> simp at hc
  · repeat' (first | refine yo ?_ ?_ | refine yw ?_ ?_ | refine yk ?_ ?_ | exact trivial | with_reducible refine wA ?_ ?_ | refine ys ?_ ?_ | refine xs_done ?_ | refine yl ?_ ?_ | refine w8 ?_ | refine w9 ?_ | refine w1 ?_ | refine w2 ?_ | refine w3 ?_ | refine w4 ?_ | refine w5 ?_ | refine w6 ?_ | refine w7 ?_ | refine yo0 ?_ ?_ | refine yw0 ?_ ?_ | exact qq | fail)
    refine xdone ?_
    refine kretr (st' := ⟨[(2, .lsl 0 0 n)], [iRow n (lF 0 D)]⟩) (can_rowsv [0] (k0_sel hk rfl) rfl (by (repeat (refine SelV.cons rfl rqq ?_)); exact SelV.nil) tmq) rfl ⟨trivial, trivial⟩ rfl ⟨D, ⟨?_, fun x => Iff.rfl⟩, by rw [hD]; rfl, by rw [hD]⟩
    match D, hD with
    | [], _ => simp
    | [x], _ => simp
    | x :: y :: l, h => simp at h; omega
  · repeat' (first | refine yo ?_ ?_ | refine yw ?_ ?_ | refine yk ?_ ?_ | exact trivial | with_reducible refine wA ?_ ?_ | refine ys ?_ ?_ | refine xs_done ?_ | refine yl ?_ ?_ | refine w8 ?_ | refine w9 ?_ | refine w1 ?_ | refine w2 ?_ | refine w3 ?_ | refine w4 ?_ | refine w5 ?_ | refine w6 ?_ | refine w7 ?_ | refine yo0 ?_ ?_ | refine yw0 ?_ ?_ | exact qq | fail)
    refine pcan (st' := ⟨[(0, .lsl 0 0 n), (3, vi ((1 : Nat) : Int))], [iRow n (lF 0 D)]⟩) (can_rowsv [0] (k0_sel hk rfl) rfl (by (repeat (refine SelV.cons rfl rqq ?_)); exact SelV.nil) tmq) ?_
    refine ploop (fun q st => ∃ k : Nat, 1 ≤ k ∧ k ≤ n ∧ (∀ a, 1 ≤ a → a < k → lF 0 D a ≠ lF 0 D (a - 1)) ∧ q = n - k ∧ st = ⟨[(0, .lsl 0 0 n), (3, vi k)], [iRow n (lF 0 D)]⟩) (n - 1) ⟨1, by omega, by omega, fun a h1 h2 => by omega, rfl, rfl⟩ ?_
    rintro _ _ ⟨k, hk1, hk2, hne, rfl, rfl⟩
    have hw0 : IntKind.i64.wrap ((k : Int) - 1) = ((k - 1 : Nat) : Int) := by rw [w64 (by omega) (by omega)]; omega
    repeat' (first | refine yo ?_ ?_ | refine yw ?_ ?_ | refine yk ?_ ?_ | exact trivial | with_reducible refine wA ?_ ?_ | refine ys ?_ ?_ | refine xs_done ?_ | refine yl ?_ ?_ | refine w8 ?_ | refine w9 ?_ | refine w1 ?_ | refine w2 ?_ | refine w3 ?_ | refine w4 ?_ | refine w5 ?_ | refine w6 ?_ | refine w7 ?_ | refine yo0 ?_ ?_ | refine yw0 ?_ ?_ | exact qq | fail)
    refine pcond rfl ?_ ?_ <;> intro hc2 <;> simp at hc2
    · repeat' (first | refine yo ?_ ?_ | refine yw ?_ ?_ | refine yk ?_ ?_ | exact trivial | with_reducible refine wA ?_ ?_ | refine ys ?_ ?_ | refine xs_done ?_ | refine yl ?_ ?_ | refine xs_start (id := 6) true [.take 0, .take 1, .take 2, .take 3, .take 4, .take 5, .take 6, .take 7, .take 8, .take 9] 0 rfl rfl (by kernel_rfl) ?_ | refine xs_start (id := 11) true [.take 0, .take 1, .take 2, .take 3, .take 4, .take 5, .take 6, .take 7, .take 8, .take 9] 0 rfl rfl (by kernel_rfl) ?_ | refine w8 ?_ | refine w9 ?_ | refine w1 ?_ | refine w2 ?_ | refine w3 ?_ | refine w4 ?_ | refine w5 ?_ | refine w6 ?_ | refine w7 ?_ | refine yo0 ?_ ?_ | refine yw0 ?_ ?_ | exact qq | fail)
      rw [hw0]
      refine pcond (b := decide (lF 0 D k = lF 0 D (k - 1))) ?_ ?_ ?_
      · refine eqB ?_
        show (lF 0 D (0 + (k : Int).toNat) == lF 0 D (0 + ((k - 1 : Nat) : Int).toNat)) = _
        rw [show 0 + (k : Int).toNat = k by omega, show 0 + ((k - 1 : Nat) : Int).toNat = k - 1 by omega, Bool.eq_iff_iff]; simp
      · intro h
        have h := of_decide_eq_true h
        have hstart : CmpR (D.take (k + 1)) (D.take k) := (cmpR_snoc hS (q := k) (by omega) (by omega) (cmpR_take hS (by omega) hne)).1 h
        repeat' (first | refine yo ?_ ?_ | refine yw ?_ ?_ | refine yk ?_ ?_ | exact trivial | with_reducible refine wA ?_ ?_ | refine ys ?_ ?_ | refine xs_done ?_ | refine yl ?_ ?_ | refine w8 ?_ | refine w9 ?_ | refine w1 ?_ | refine w2 ?_ | refine w3 ?_ | refine w4 ?_ | refine w5 ?_ | refine w6 ?_ | refine w7 ?_ | refine yo0 ?_ ?_ | refine yw0 ?_ ?_ | exact qq | fail)
        · exact ⟨trivial, trivial, by omega, by omega, by omega⟩
        refine pcan (st' := ⟨[(0, .lsl 0 0 n), (3, vi k), (4, .lsl 0 k (n - k)), (5, vi ((1 : Nat) : Int))], [iRow n (lF 0 D)]⟩) (can_rowsv [0] (k0_sel hk rfl) rfl (.cons rfl rqq .nil) (by exact ⟨PEq.refl _, PEq.refl _, PEq.of (by show PV.lsl 0 (0 + (k : Int).toNat) ((n : Int) - (k : Int)).toNat = _; congr 1 <;> omega), PEq.refl _, trivial⟩)) ?_
        refine ploop (fun z st => ∃ (q m : Nat) (M : List Int) (f : Nat → Int), 1 ≤ q ∧ k + q ≤ n ∧ m ≤ k + q - 1 ∧ M.length = m ∧ CmpR (D.take (k + q)) M ∧ (∀ a, a < m → f a = lF 0 M a) ∧ (∀ a, k + q - 1 ≤ a → f a = lF 0 D a) ∧ z = n - (k + q) ∧ st = ⟨[(0, .lsl 0 0 n), (3, vi m), (4, .lsl 0 k (n - k)), (5, vi q)], [iRow n f]⟩) (n - (k + 1)) ⟨1, k, D.take k, lF 0 D, by omega, by omega, by omega, by simp; omega, hstart, fun a ha => by rw [lF_get' (by omega), lF_get' (by simp; omega), List.getElem_take], fun a ha => rfl, rfl, rfl⟩ ?_
        rintro _ _ ⟨q, m, M, f, hq1, hq2, hm, hM, hC, hf, hg, rfl, rfl⟩
        have hw1 : IntKind.i64.wrap ((q : Int) - 1) = ((q - 1 : Nat) : Int) := by rw [w64 (by omega) (by omega)]; omega
        have hw2 : IntKind.i64.wrap ((q : Int) + 1) = ((q + 1 : Nat) : Int) := w64 (by omega) (by omega)
        have hw3 : IntKind.i64.wrap ((m : Int) + 1) = ((m + 1 : Nat) : Int) := w64 (by omega) (by omega)
        repeat' (first | refine yo ?_ ?_ | refine yw ?_ ?_ | refine yk ?_ ?_ | exact trivial | with_reducible refine wA ?_ ?_ | refine ys ?_ ?_ | refine xs_done ?_ | refine yl ?_ ?_ | refine w8 ?_ | refine w9 ?_ | refine w1 ?_ | refine w2 ?_ | refine w3 ?_ | refine w4 ?_ | refine w5 ?_ | refine w6 ?_ | refine w7 ?_ | refine yo0 ?_ ?_ | refine yw0 ?_ ?_ | exact qq | fail)
        refine pcond rfl ?_ ?_ <;> intro hc3 <;> simp at hc3
        · have hsn := cmpR_snoc hS (q := k + q) (by omega) (by omega) hC
          have hf1 : f (k + q) = lF 0 D (k + q) := hg _ (by omega)
          have hf0 : f (k + (q - 1)) = lF 0 D (k + q - 1) := by rw [hg _ (by omega)]; congr 1; omega
          repeat' (first | refine yo ?_ ?_ | refine yw ?_ ?_ | refine yk ?_ ?_ | exact trivial | with_reducible refine wA ?_ ?_ | refine ys ?_ ?_ | refine xs_done ?_ | refine yl ?_ ?_ | refine xs_start (id := 6) true [.take 0, .take 1, .take 2, .take 3, .take 4, .take 5, .take 6, .take 7, .take 8, .take 9] 0 rfl rfl (by kernel_rfl) ?_ | refine xs_start (id := 11) true [.take 0, .take 1, .take 2, .take 3, .take 4, .take 5, .take 6, .take 7, .take 8, .take 9] 0 rfl rfl (by kernel_rfl) ?_ | refine w8 ?_ | refine w9 ?_ | refine w1 ?_ | refine w2 ?_ | refine w3 ?_ | refine w4 ?_ | refine w5 ?_ | refine w6 ?_ | refine w7 ?_ | refine yo0 ?_ ?_ | refine yw0 ?_ ?_ | exact qq | fail)
          rw [hw1]
          refine pcond (b := decide (lF 0 D (k + q) ≠ lF 0 D (k + q - 1))) ?_ ?_ ?_
          · refine eqB ?_
            show (f (k + (q : Int).toNat) != f (k + ((q - 1 : Nat) : Int).toNat)) = _
            rw [show (q : Int).toNat = q by omega, show ((q - 1 : Nat) : Int).toNat = q - 1 by omega, hf1, hf0, Bool.eq_iff_iff]; simp
          · intro h5
            have h5 := of_decide_eq_true h5
            repeat' (first | refine yo ?_ ?_ | refine yw ?_ ?_ | refine yk ?_ ?_ | exact trivial | with_reducible refine wA ?_ ?_ | refine ys ?_ ?_ | refine xs_done ?_ | refine yl ?_ ?_ | refine w8 ?_ | refine w9 ?_ | refine w1 ?_ | refine w2 ?_ | refine w3 ?_ | refine w4 ?_ | refine w5 ?_ | refine w6 ?_ | refine w7 ?_ | refine yo0 ?_ ?_ | refine yw0 ?_ ?_ | exact qq | fail)
            rw [hw2, hw3]
            have e1 : ∀ a, a ≠ m → (upd f m (f (k + q))) a = f a := fun a ha => if_neg ha
            have e2 : (upd f m (f (k + q))) m = lF 0 D (k + q) := by unfold upd; rw [if_pos rfl, hf1]
            refine kloop_next (st' := ⟨[(0, .lsl 0 0 n), (3, vi ((m + 1 : Nat) : Int)), (4, .lsl 0 k (n - k)), (5, vi ((q + 1 : Nat) : Int))], [iRow n (upd f m (f (k + q)))]⟩) (n - (k + (q + 1))) (can_rowsv [0] (k0_sel hk rfl) rfl (.cons rfl (i_eq (Nat.le_refl _) fun a ha => ?_) .nil) tmq) (by omega) ⟨q + 1, m + 1, M ++ [lF 0 D (k + q)], _, by omega, by omega, by omega, by rw [List.length_append, hM]; rfl, hsn.2 h5, fun a ha => ?_, fun a ha => by rw [e1 a (by omega)]; exact hg a (by omega), rfl, rfl⟩
            · show updR (tI f) (0 + (m : Int).toNat) [vi (f (k + (q : Int).toNat))] a 0 = _
              rw [show 0 + (m : Int).toNat = m by omega, show (q : Int).toNat = q by omega]
              exact upd_eq f m (f (k + q)) a 0 rfl
            · by_cases e : a = m
              · subst e
                rw [e2]
                have := lF_at (d := 0) (y := lF 0 D (k + q)) (l := M) (r := [])
                rw [hM] at this; exact this.symm
              · rw [e1 a e, hf a (by omega), lF_lt (by omega)]
          · intro h5
            have h5 : lF 0 D (k + q) = lF 0 D (k + q - 1) := Decidable.not_not.1 (of_decide_eq_false h5)
            repeat' (first | refine yo ?_ ?_ | refine yw ?_ ?_ | refine yk ?_ ?_ | exact trivial | with_reducible refine wA ?_ ?_ | refine ys ?_ ?_ | refine xs_done ?_ | refine yl ?_ ?_ | refine w8 ?_ | refine w9 ?_ | refine w1 ?_ | refine w2 ?_ | refine w3 ?_ | refine w4 ?_ | refine w5 ?_ | refine w6 ?_ | refine w7 ?_ | refine yo0 ?_ ?_ | refine yw0 ?_ ?_ | exact qq | fail)
            rw [hw2]
            exact kloop_next (st' := ⟨[(0, .lsl 0 0 n), (3, vi m), (4, .lsl 0 k (n - k)), (5, vi ((q + 1 : Nat) : Int))], [iRow n f]⟩) (n - (k + (q + 1))) (can_rowsv [0] (k0_sel hk rfl) rfl (.cons rfl rqq .nil) tmq) (by omega) ⟨q + 1, m, M, f, by omega, by omega, by omega, hM, hsn.1 h5, hf, fun a ha => hg a (by omega), rfl, rfl⟩
        · have hT : D.take (k + q) = D := by rw [show k + q = n by omega, ← hD]; simp
          rw [hT] at hC
          repeat' (first | refine yo ?_ ?_ | refine yw ?_ ?_ | refine yk ?_ ?_ | exact trivial | with_reducible refine wA ?_ ?_ | refine ys ?_ ?_ | refine xs_done ?_ | refine yl ?_ ?_ | refine w8 ?_ | refine w9 ?_ | refine w1 ?_ | refine w2 ?_ | refine w3 ?_ | refine w4 ?_ | refine w5 ?_ | refine w6 ?_ | refine w7 ?_ | refine yo0 ?_ ?_ | refine yw0 ?_ ?_ | exact qq | fail)
          show POps _ _ _ _ (_ :: _) _ _
          refine pop_clear (G := G.toPg) hu_int hz_int rfl rfl rfl rfl rfl rfl rfl rfl ?_
          repeat' (first | refine yo ?_ ?_ | refine yw ?_ ?_ | refine yk ?_ ?_ | exact trivial | with_reducible refine wA ?_ ?_ | refine ys ?_ ?_ | refine xs_done ?_ | refine yl ?_ ?_ | refine w8 ?_ | refine w9 ?_ | refine w1 ?_ | refine w2 ?_ | refine w3 ?_ | refine w4 ?_ | refine w5 ?_ | refine w6 ?_ | refine w7 ?_ | refine yo0 ?_ ?_ | refine yw0 ?_ ?_ | exact qq | fail)
          · exact ⟨trivial, trivial, by omega, by omega, by omega⟩
          refine xdone ?_
          refine kretr (st' := ⟨[(2, .lsl 0 0 m)], [iRow m (lF 0 M)]⟩) (can_rowsv [0] (k0_sel hk rfl) rfl (.cons rfl (i_eq (by show m ≤ n; omega) fun a ha => ?_) .nil) (by exact ⟨PEq.of (by show PV.lsl 0 0 _ = _; congr 1), trivial⟩)) rfl ⟨trivial, trivial⟩ rfl ⟨M, hC, by rw [hM]; rfl, by rw [hM]⟩
          show clrF _ _ (tI f) a 0 = _
          unfold clrF
          rw [if_neg (by omega)]
          · show vi (f a) = _
            rw [hf a ha]
          · exact ⟨trivial, trivial, by omega, by omega, by omega⟩
      · intro h
        have h := of_decide_eq_false h
        repeat' (first | refine yo ?_ ?_ | refine yw ?_ ?_ | refine yk ?_ ?_ | exact trivial | with_reducible refine wA ?_ ?_ | refine ys ?_ ?_ | refine xs_done ?_ | refine yl ?_ ?_ | refine w8 ?_ | refine w9 ?_ | refine w1 ?_ | refine w2 ?_ | refine w3 ?_ | refine w4 ?_ | refine w5 ?_ | refine w6 ?_ | refine w7 ?_ | refine yo0 ?_ ?_ | refine yw0 ?_ ?_ | exact qq | fail)
        rw [show IntKind.i64.wrap ((k : Int) + 1) = ((k + 1 : Nat) : Int) from w64 (by omega) (by omega)]
        exact kloop_next (st' := ⟨[(0, .lsl 0 0 n), (3, vi ((k + 1 : Nat) : Int))], [iRow n (lF 0 D)]⟩) (n - (k + 1)) (can_rowsv [0] (k0_sel hk rfl) rfl (by (repeat (refine SelV.cons rfl rqq ?_)); exact SelV.nil) tmq) (by omega) ⟨k + 1, by omega, by omega, fun a h1 h2 => by
          by_cases e : a = k
          · subst e; exact h
          · exact hne a h1 (by omega), rfl, rfl⟩
    · have hkn : k = n := by omega
      subst hkn
      repeat' (first | refine yo ?_ ?_ | refine yw ?_ ?_ | refine yk ?_ ?_ | exact trivial | with_reducible refine wA ?_ ?_ | refine ys ?_ ?_ | refine xs_done ?_ | refine yl ?_ ?_ | refine w8 ?_ | refine w9 ?_ | refine w1 ?_ | refine w2 ?_ | refine w3 ?_ | refine w4 ?_ | refine w5 ?_ | refine w6 ?_ | refine w7 ?_ | refine yo0 ?_ ?_ | refine yw0 ?_ ?_ | exact qq | fail)
      refine xdone ?_
      have := cmpR_take hS (k := k) (by omega) hne
      rw [show D.take k = D by rw [← hD]; simp] at this
      exact kretr (st' := ⟨[(2, .lsl 0 0 k)], [iRow k (lF 0 D)]⟩) (can_rowsv [0] (k0_sel hk rfl) rfl (by (repeat (refine SelV.cons rfl rqq ?_)); exact SelV.nil) tmq) rfl ⟨trivial, trivial⟩ rfl ⟨D, this, by rw [hD]; rfl, by rw [hD]⟩
end Go.Proofs.YtpaeomgnmimjoaaDoor
