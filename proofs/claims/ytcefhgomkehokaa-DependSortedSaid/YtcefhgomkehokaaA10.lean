/- depend.meaning, needs: what definitions need. -/
import Derived.Test.YtcefhgomkehokaaA09
import Derived.Test.YtcefhgomkehokaaA07
import Derived.Test.YtcefhgomkehokaaA08
set_option linter.unusedSimpArgs false
set_option linter.unusedVariables false
set_option maxRecDepth 100000
namespace Go.Proofs.Ytcefhgomkehokaa
def inpB (l : List Df) (s : ByteArray) (i : Nat) : Bool := decide ((lF dD l i).kind = 1 ∧ (lF dD l i).nm.toList = s.toList)
def fitB (l : List Df) (e : Ex) (x : Int) : Bool := decide ((e.op = 3 ∧ comp (lF dD l x.toNat) = true ∨ e.op = 4 ∧ (lF dD l x.toNat).kind = 2) ∧ (lF dD l x.toNat).nm.toList = e.nm.toList)
def meanI (l : List Df) (act : List Int) (e : Ex) : Option Int := match (if e.op = 3 then (List.range l.length).find? (inpB l e.nm) else none) with
  | some i => some i
  | none => act.find? (fitB l e)
abbrev vMn (o : Option Int) : PV := .tup 2 (nthP [vi (o.getD 0), vb o.isSome])
theorem find_rng {p : Nat → Bool} {n i : Nat} (hi : i < n) (h : ∀ j, j < i → p j = false) (hp : p i = true) : (List.range n).find? p = some i := by
  rw [List.find?_range_eq_some]
  exact ⟨hp, List.mem_range.2 hi, fun j hj => by rw [h j hj]; rfl⟩
theorem find_rno {p : Nat → Bool} {n : Nat} (h : ∀ j, j < n → p j = false) : (List.range n).find? p = none := by
  rw [List.find?_eq_none]
  intro j hj
  rw [h j (List.mem_range.1 hj)]; decide
theorem find_lF {p : Int → Bool} {l : List Int} {i : Nat} (hi : i < l.length) (h : ∀ j, j < i → p (lF 0 l j) = false) (hp : p (lF 0 l i) = true) : l.find? p = some (lF 0 l i) := by
  rw [List.find?_eq_some_iff_getElem]
  refine ⟨hp, i, hi, (lF_get' hi).symm, fun j hj => ?_⟩
  rw [← lF_get' (by omega), h j hj]; rfl
theorem find_lno {p : Int → Bool} {l : List Int} (h : ∀ j, j < l.length → p (lF 0 l j) = false) : l.find? p = none := by
  rw [List.find?_eq_none]
  intro x hx
  obtain ⟨j, hj, rfl⟩ := List.getElem_of_mem hx
  rw [← lF_get' hj, h j hj]; decide
set_option maxHeartbeats 8000000 in
theorem meaning_c (nm : ByteArray) (l : List Df) (act : List Int) (e : Ex) (hl : l.length ≤ 1000000) (ha : act.length ≤ 1000000) (hin : ∀ x, x ∈ act → 0 ≤ x ∧ x < l.length) : PureC G.P 42 [vA nm l, sV act, vX e] (fun r => r = vMn (meanI l act e)) := by
  refine pure_of (G := G.toPg) (fn := Try.f42) Try.func42 rfl rfl rfl ?_; intro Γ hk
  repeat' (first | refine yo ?_ ?_ | refine yw ?_ ?_ | refine yk ?_ ?_ | exact trivial | with_reducible refine wA ?_ ?_ | refine ys ?_ ?_ | refine xs_done ?_ | refine yl ?_ ?_ | refine w8 ?_ | refine w9 ?_ | refine w1 ?_ | refine w2 ?_ | refine w3 ?_ | refine w4 ?_ | refine w5 ?_ | refine w6 ?_ | refine w7 ?_ | refine yo0 ?_ ?_ | refine yw0 ?_ ?_ | exact qq | fail)
  refine pcut (fun st => (e.op = 3 → (List.range l.length).find? (inpB l e.nm) = none) ∧ st = ⟨[(1, sV act), (3, .ptr 0 0 0), (5, .ptr 1 0 0)], [rA1 nm l, rXE e]⟩) ?_ ?_
  · refine pcond (b := decide (e.op = 3)) (eqB (bqd _ _)) ?_ ?_ <;> intro h3
    · have h3 := of_decide_eq_true h3
      repeat' (first | refine yo ?_ ?_ | refine yw ?_ ?_ | refine yk ?_ ?_ | exact trivial | with_reducible refine wA ?_ ?_ | refine ys ?_ ?_ | refine xs_done ?_ | refine yl ?_ ?_ | refine w8 ?_ | refine w9 ?_ | refine w1 ?_ | refine w2 ?_ | refine w3 ?_ | refine w4 ?_ | refine w5 ?_ | refine w6 ?_ | refine w7 ?_ | refine yo0 ?_ ?_ | refine yw0 ?_ ?_ | exact qq | fail)
      refine pcan (st' := ⟨[(1, sV act), (3, .ptr 0 0 0), (5, .ptr 1 0 0), (18, vDs l), (19, vi l.length), (20, vi ((0 : Nat) : Int))], [rA1 nm l, rXE e]⟩) (can_rowsv [0, 1] (k0_sel hk rfl) rfl (.cons rfl (RowEq.cl (rA1_cl _ _)) (.cons rfl (RowEq.cl (rXE_cl _)) .nil)) tmq) ?_
      refine ploop (fun q st => ∃ i : Nat, i ≤ l.length ∧ (∀ j, j < i → inpB l e.nm j = false) ∧ q = l.length - i ∧ st = ⟨[(1, sV act), (3, .ptr 0 0 0), (5, .ptr 1 0 0), (18, vDs l), (19, vi l.length), (20, vi i)], [rA1 nm l, rXE e]⟩) l.length ⟨0, by omega, fun j hj => by omega, by omega, rfl⟩ ?_
      rintro _ _ ⟨i, hi, hv, rfl, rfl⟩
      have hw1 : IntKind.i64.wrap ((i : Int) + 1) = ((i + 1 : Nat) : Int) := w64 (by omega) (by omega)
      repeat' (first | refine yo ?_ ?_ | refine yw ?_ ?_ | refine yk ?_ ?_ | exact trivial | with_reducible refine wA ?_ ?_ | refine ys ?_ ?_ | refine xs_done ?_ | refine yl ?_ ?_ | refine w8 ?_ | refine w9 ?_ | refine w1 ?_ | refine w2 ?_ | refine w3 ?_ | refine w4 ?_ | refine w5 ?_ | refine w6 ?_ | refine w7 ?_ | refine yo0 ?_ ?_ | refine yw0 ?_ ?_ | exact qq | fail)
      refine pcond rfl ?_ ?_ <;> intro hc
      · have hc : i < l.length := by have := of_decide_eq_true hc; omega
        repeat' (first | refine yo ?_ ?_ | refine yw ?_ ?_ | refine yk ?_ ?_ | exact trivial | with_reducible refine wA ?_ ?_ | refine ys ?_ ?_ | refine xs_done ?_ | refine yl ?_ ?_ | refine w8 ?_ | refine w9 ?_ | refine w1 ?_ | refine w2 ?_ | refine w3 ?_ | refine w4 ?_ | refine w5 ?_ | refine w6 ?_ | refine w7 ?_ | refine yo0 ?_ ?_ | refine yw0 ?_ ?_ | exact qq | fail)
        refine pcond (b := inpB l e.nm i) ?_ ?_ ?_
        · refine eqB ?_
          show (bif ((lF dD l i).kind == 1) then ((lF dD l i).nm.toList == e.nm.toList) else false) = _
          unfold inpB
          by_cases e1 : (lF dD l i).kind = 1 <;> by_cases e2 : (lF dD l i).nm.toList = e.nm.toList <;> simp [e1, e2]
        · intro h1
          repeat' (first | refine yo ?_ ?_ | refine yw ?_ ?_ | refine yk ?_ ?_ | exact trivial | with_reducible refine wA ?_ ?_ | refine ys ?_ ?_ | refine xs_done ?_ | refine yl ?_ ?_ | refine w8 ?_ | refine w9 ?_ | refine w1 ?_ | refine w2 ?_ | refine w3 ?_ | refine w4 ?_ | refine w5 ?_ | refine w6 ?_ | refine w7 ?_ | refine yo0 ?_ ?_ | refine yw0 ?_ ?_ | exact qq | fail)
          refine kretv rfl ⟨trivial, trivial, trivial⟩ rfl ?_
          unfold meanI
          rw [if_pos h3, find_rng hc hv h1]; rfl
        · intro h1
          repeat' (first | refine yo ?_ ?_ | refine yw ?_ ?_ | refine yk ?_ ?_ | exact trivial | with_reducible refine wA ?_ ?_ | refine ys ?_ ?_ | refine xs_done ?_ | refine yl ?_ ?_ | refine w8 ?_ | refine w9 ?_ | refine w1 ?_ | refine w2 ?_ | refine w3 ?_ | refine w4 ?_ | refine w5 ?_ | refine w6 ?_ | refine w7 ?_ | refine yo0 ?_ ?_ | refine yw0 ?_ ?_ | exact qq | fail)
          rw [hw1]
          exact kloop_next (st' := ⟨[(1, sV act), (3, .ptr 0 0 0), (5, .ptr 1 0 0), (18, vDs l), (19, vi l.length), (20, vi ((i + 1 : Nat) : Int))], [rA1 nm l, rXE e]⟩) (l.length - (i + 1)) (can_rowsv [0, 1] (k0_sel hk rfl) rfl (.cons rfl (RowEq.cl (rA1_cl _ _)) (.cons rfl (RowEq.cl (rXE_cl _)) .nil)) tmq) (by omega) ⟨i + 1, by omega, fun j hj => by
            by_cases e : j = i
            · subst e; exact h1
            · exact hv j (by omega), rfl, rfl⟩
      · have hil : i = l.length := by have := of_decide_eq_false hc; omega
        subst hil
        repeat' (first | refine yo ?_ ?_ | refine yw ?_ ?_ | refine yk ?_ ?_ | exact trivial | with_reducible refine wA ?_ ?_ | refine ys ?_ ?_ | refine xs_done ?_ | refine yl ?_ ?_ | refine w8 ?_ | refine w9 ?_ | refine w1 ?_ | refine w2 ?_ | refine w3 ?_ | refine w4 ?_ | refine w5 ?_ | refine w6 ?_ | refine w7 ?_ | refine yo0 ?_ ?_ | refine yw0 ?_ ?_ | exact qq | fail)
        exact kcut (st' := ⟨[(1, sV act), (3, .ptr 0 0 0), (5, .ptr 1 0 0)], [rA1 nm l, rXE e]⟩) (can_rowsv [0, 1] (k0_sel hk rfl) rfl (.cons rfl (RowEq.cl (rA1_cl _ _)) (.cons rfl (RowEq.cl (rXE_cl _)) .nil)) tmq) ⟨fun _ => find_rno hv, rfl⟩
    · have h3 := of_decide_eq_false h3
      repeat' (first | refine yo ?_ ?_ | refine yw ?_ ?_ | refine yk ?_ ?_ | exact trivial | with_reducible refine wA ?_ ?_ | refine ys ?_ ?_ | refine xs_done ?_ | refine yl ?_ ?_ | refine w8 ?_ | refine w9 ?_ | refine w1 ?_ | refine w2 ?_ | refine w3 ?_ | refine w4 ?_ | refine w5 ?_ | refine w6 ?_ | refine w7 ?_ | refine yo0 ?_ ?_ | refine yw0 ?_ ?_ | exact qq | fail)
      exact kcut (st' := ⟨[(1, sV act), (3, .ptr 0 0 0), (5, .ptr 1 0 0)], [rA1 nm l, rXE e]⟩) (can_rowsv [0, 1] (k0_sel hk rfl) rfl (.cons rfl (RowEq.cl (rA1_cl _ _)) (.cons rfl (RowEq.cl (rXE_cl _)) .nil)) tmq) ⟨fun h => absurd h h3, rfl⟩
  rintro _ ⟨hno, rfl⟩
  have hM : meanI l act e = act.find? (fitB l e) := by
    unfold meanI
    by_cases h3 : e.op = 3
    · rw [if_pos h3, hno h3]
    · rw [if_neg h3]
  rw [hM]
  repeat' (first | refine yo ?_ ?_ | refine yw ?_ ?_ | refine yk ?_ ?_ | exact trivial | with_reducible refine wA ?_ ?_ | refine ys ?_ ?_ | refine xs_done ?_ | refine yl ?_ ?_ | refine w8 ?_ | refine w9 ?_ | refine w1 ?_ | refine w2 ?_ | refine w3 ?_ | refine w4 ?_ | refine w5 ?_ | refine w6 ?_ | refine w7 ?_ | refine yo0 ?_ ?_ | refine yw0 ?_ ?_ | exact qq | fail)
  refine pcan (st' := ⟨[(3, .ptr 0 0 0), (5, .ptr 1 0 0), (37, sV act), (38, vi act.length), (39, vi ((0 : Nat) : Int))], [rA1 nm l, rXE e]⟩) (can_rowsv [0, 1] (k0_sel hk rfl) rfl (.cons rfl (RowEq.cl (rA1_cl _ _)) (.cons rfl (RowEq.cl (rXE_cl _)) .nil)) tmq) ?_
  refine ploop (fun q st => ∃ i : Nat, i ≤ act.length ∧ (∀ j, j < i → fitB l e (lF 0 act j) = false) ∧ q = act.length - i ∧ st = ⟨[(3, .ptr 0 0 0), (5, .ptr 1 0 0), (37, sV act), (38, vi act.length), (39, vi i)], [rA1 nm l, rXE e]⟩) act.length ⟨0, by omega, fun j hj => by omega, by omega, rfl⟩ ?_
  rintro _ _ ⟨i, hi, hv, rfl, rfl⟩
  have hw1 : IntKind.i64.wrap ((i : Int) + 1) = ((i + 1 : Nat) : Int) := w64 (by omega) (by omega)
  repeat' (first | refine yo ?_ ?_ | refine yw ?_ ?_ | refine yk ?_ ?_ | exact trivial | with_reducible refine wA ?_ ?_ | refine ys ?_ ?_ | refine xs_done ?_ | refine yl ?_ ?_ | refine w8 ?_ | refine w9 ?_ | refine w1 ?_ | refine w2 ?_ | refine w3 ?_ | refine w4 ?_ | refine w5 ?_ | refine w6 ?_ | refine w7 ?_ | refine yo0 ?_ ?_ | refine yw0 ?_ ?_ | exact qq | fail)
  refine pcond rfl ?_ ?_ <;> intro hc
  · have hc : i < act.length := by have := of_decide_eq_true hc; omega
    have hx : 0 ≤ lF 0 act i ∧ lF 0 act i < l.length := hin _ (by rw [lF_get' hc]; exact List.getElem_mem hc)
    have cc := computed_c (lF dD l (lF 0 act i).toNat)
    have hx3 : (lF 0 act i).toNat < l.length := by omega
    repeat' (first | refine yo ?_ ?_ | refine yw ?_ ?_ | refine yk ?_ ?_ | exact trivial | with_reducible refine wA ?_ ?_ | refine ys ?_ ?_ | refine xs_done ?_ | refine yl ?_ ?_ | exact ⟨hx.1, hx.2⟩ | exact hx3 | refine z1 cc ?_ | refine z2 cc ?_ | refine z3 cc ?_ | refine z4 cc ?_ | refine z5 cc ?_ | refine w8 ?_ | refine w9 ?_ | refine w1 ?_ | refine w2 ?_ | refine w3 ?_ | refine w4 ?_ | refine w5 ?_ | refine w6 ?_ | refine w7 ?_ | refine yo0 ?_ ?_ | refine yw0 ?_ ?_ | exact qq | fail)
    refine pcond (b := fitB l e (lF 0 act i)) ?_ ?_ ?_
    · refine eqB ?_
      show (bif bif (bif (e.op == 3) then comp (lF dD l (lF 0 act i).toNat) else false) then true else (bif (e.op == 4) then ((lF dD l (lF 0 act i).toNat).kind == 2) else false) then ((lF dD l (lF 0 act i).toNat).nm.toList == e.nm.toList) else false) = _
      unfold fitB
      by_cases e1 : e.op = 3
      · cases hcm : comp (lF dD l (lF 0 act i).toNat) <;> by_cases e3 : (lF dD l (lF 0 act i).toNat).nm.toList = e.nm.toList <;> simp [e1, e3]
      · by_cases e2 : e.op = 4 <;> by_cases e4 : (lF dD l (lF 0 act i).toNat).kind = 2 <;> by_cases e3 : (lF dD l (lF 0 act i).toNat).nm.toList = e.nm.toList <;> simp [e1, e2, e3, e4]
    · intro h1
      repeat' (first | refine yo ?_ ?_ | refine yw ?_ ?_ | refine yk ?_ ?_ | exact trivial | with_reducible refine wA ?_ ?_ | refine ys ?_ ?_ | refine xs_done ?_ | refine yl ?_ ?_ | refine w8 ?_ | refine w9 ?_ | refine w1 ?_ | refine w2 ?_ | refine w3 ?_ | refine w4 ?_ | refine w5 ?_ | refine w6 ?_ | refine w7 ?_ | refine yo0 ?_ ?_ | refine yw0 ?_ ?_ | exact qq | fail)
      refine kretv rfl ⟨trivial, trivial, trivial⟩ rfl ?_
      rw [find_lF hc hv h1]; rfl
    · intro h1
      repeat' (first | refine yo ?_ ?_ | refine yw ?_ ?_ | refine yk ?_ ?_ | exact trivial | with_reducible refine wA ?_ ?_ | refine ys ?_ ?_ | refine xs_done ?_ | refine yl ?_ ?_ | refine w8 ?_ | refine w9 ?_ | refine w1 ?_ | refine w2 ?_ | refine w3 ?_ | refine w4 ?_ | refine w5 ?_ | refine w6 ?_ | refine w7 ?_ | refine yo0 ?_ ?_ | refine yw0 ?_ ?_ | exact qq | fail)
      rw [hw1]
      exact kloop_next (st' := ⟨[(3, .ptr 0 0 0), (5, .ptr 1 0 0), (37, sV act), (38, vi act.length), (39, vi ((i + 1 : Nat) : Int))], [rA1 nm l, rXE e]⟩) (act.length - (i + 1)) (can_rowsv [0, 1] (k0_sel hk rfl) rfl (.cons rfl (RowEq.cl (rA1_cl _ _)) (.cons rfl (RowEq.cl (rXE_cl _)) .nil)) tmq) (by omega) ⟨i + 1, by omega, fun j hj => by
        by_cases e : j = i
        · subst e; exact h1
        · exact hv j (by omega), rfl, rfl⟩
  · have hil : i = act.length := by have := of_decide_eq_false hc; omega
    subst hil
    repeat' (first | refine yo ?_ ?_ | refine yw ?_ ?_ | refine yk ?_ ?_ | exact trivial | with_reducible refine wA ?_ ?_ | refine ys ?_ ?_ | refine xs_done ?_ | refine yl ?_ ?_ | refine w8 ?_ | refine w9 ?_ | refine w1 ?_ | refine w2 ?_ | refine w3 ?_ | refine w4 ?_ | refine w5 ?_ | refine w6 ?_ | refine w7 ?_ | refine yo0 ?_ ?_ | refine yw0 ?_ ?_ | exact qq | fail)
    refine kretv rfl ⟨trivial, trivial, trivial⟩ rfl ?_
    rw [find_lno hv]; rfl
/-! ### needs -/
theorem asc_uniq : ∀ {A B : List Int}, A.Pairwise (· < ·) → B.Pairwise (· < ·) → (∀ x, x ∈ A ↔ x ∈ B) → A = B
  | [], [], _, _, _ => rfl
  | [], b :: B, _, _, h => absurd ((h b).2 (List.mem_cons_self ..)) List.not_mem_nil
  | a :: A, [], _, _, h => absurd ((h a).1 (List.mem_cons_self ..)) List.not_mem_nil
  | a :: A, b :: B, hA, hB, h => by
    rw [List.pairwise_cons] at hA hB
    have e : a = b := by
      rcases List.mem_cons.1 ((h a).1 (List.mem_cons_self ..)) with e | h1
      · exact e
      · rcases List.mem_cons.1 ((h b).2 (List.mem_cons_self ..)) with e | h2
        · exact e.symm
        · have := hB.1 a h1; have := hA.1 b h2; omega
    subst e
    congr 1
    refine asc_uniq hA.2 hB.2 fun x => ⟨fun hx => ?_, fun hx => ?_⟩
    · rcases List.mem_cons.1 ((h x).1 (List.mem_cons_of_mem _ hx)) with e | h1
      · have := hA.1 x hx; omega
      · exact h1
    · rcases List.mem_cons.1 ((h x).2 (List.mem_cons_of_mem _ hx)) with e | h1
      · have := hB.1 x hx; omega
      · exact h1
theorem actN_asc (l : List Df) (day : Int) : ∀ n, (actN l day n).Pairwise (· < ·)
  | 0 => List.Pairwise.nil
  | n + 1 => by
    cases h : isAct l day n with
    | true =>
      rw [actN_y h, List.pairwise_append]
      refine ⟨actN_asc l day n, List.pairwise_singleton _ _, fun a ha b hb => ?_⟩
      obtain ⟨i, rfl, hi, _⟩ := actN_mem ha
      rw [List.mem_singleton.1 hb]; omega
    | false => rw [actN_n h]; exact actN_asc l day n
def needL (l : List Df) (act : List Int) (R : List Ex) : List Int := act.filter fun j => comp (lF dD l j.toNat) && decide (j ∈ R.filterMap (meanI l act))
def needS (l : List Df) (act : List Int) (i : Nat) : List Int × Int := if (refsE (lF dD l i).body).all (fun e => (meanI l act e).isSome) = true then (needL l act (refsE (lF dD l i).body), 0) else ([], 7)
def jsL (l : List Df) (act : List Int) (R : List Ex) : List Int := (R.filterMap (meanI l act)).filter fun j => comp (lF dD l j.toNat)
theorem jsL_snoc {l : List Df} {act : List Int} {R : List Ex} {e : Ex} {j : Int} (h : meanI l act e = some j) : jsL l act (R ++ [e]) = jsL l act R ++ if comp (lF dD l j.toNat) = true then [j] else [] := by
  unfold jsL
  rw [List.filterMap_append, List.filter_append]
  congr 1
  simp only [List.filterMap_cons, List.filterMap_nil, h, List.filter_cons, List.filter_nil]
theorem jsL_len (l : List Df) (act : List Int) (R : List Ex) : (jsL l act R).length ≤ R.length := Nat.le_trans (List.length_filter_le _ _) (List.length_filterMap_le _ _)
theorem meanI_mem {l : List Df} {act : List Int} {e : Ex} {j : Int} (h : meanI l act e = some j) : (0 ≤ j ∧ j < l.length ∧ (lF dD l j.toNat).kind = 1) ∨ j ∈ act := by
  unfold meanI at h
  split at h
  · rename_i i hi
    injection h with h
    subst h
    split at hi
    · have h1 := List.find?_some hi
      have h2 := List.mem_range.1 (List.mem_of_find?_eq_some hi)
      unfold inpB at h1
      exact .inl ⟨by omega, by omega, (of_decide_eq_true h1).1⟩
    · cases hi
  · exact .inr (List.mem_of_find?_eq_some h)
theorem need_mem {l : List Df} {act : List Int} {R : List Ex} (x : Int) : x ∈ jsL l act R ↔ x ∈ needL l act R := by
  unfold jsL needL
  rw [List.mem_filter, List.mem_filter]
  simp only [Bool.and_eq_true, decide_eq_true_eq]
  constructor
  · rintro ⟨h1, h2⟩
    obtain ⟨e, _, he⟩ := List.mem_filterMap.1 h1
    rcases meanI_mem he with ⟨_, _, h3⟩ | h3
    · unfold comp at h2
      have := of_decide_eq_true h2
      omega
    · exact ⟨h3, h2, h1⟩
  · rintro ⟨_, h2, h3⟩; exact ⟨h3, h2⟩
theorem need_uniq {l : List Df} {act : List Int} (ha : act.Pairwise (· < ·)) {R : List Ex} {M : List Int} (h : CmpR (sortL (jsL l act R)) M) : M = needL l act R :=
  asc_uniq h.srt (ha.filter _) fun x => by rw [h.mem, (sortL_perm _).mem_iff, need_mem]
section
variable {G : Pg} {N : Nat} {Γ : Fr} {st : PSt} {K : Exit → PSt → Prop} {ops : Array Oper} {o : Oper} {rest : List Oper} {d : Nat} {x y : Operand} {f : FuncId} {tys : Array TypeId} {c : Nat → PV}
theorem pop_sort0 (C : SortC G.P f) (hg : o.guard = none) (hd : o.dst = some d) (hN : Nat.blt d N = true) (ho : o.op = .call ⟨.value x, #[y], tys⟩) (hx : st.ev x = .clo f 0 c) (hy : st.ev y = .val (.slice none 0 0)) (h : POps G N Γ ops rest (st.put d (.tup 0 (nthP []))) K) : POps G N Γ ops (o :: rest) st K := .mk fun ρ I a w hrel => by
  have hw : Region.wanted o (yielded ops a.tmps) = true := by simp [Region.wanted, hg]
  simp only [wpList, hw, if_true]
  refine .inl ?_
  have hxv := ev_rel hrel x
  rw [hx] at hxv
  obtain ⟨cap1, e1, e2, _⟩ := hxv
  have hcap1 : cap1 = #[] := by apply Array.eq_empty_of_size_eq_zero e2
  subst hcap1
  have hyv := ev_rel hrel y
  rw [hy] at hyv
  have hyv : a.eval y = .slice none 0 0 := hyv
  simp only [Oper.wp, call_run C.ok ho e1, Oper.upon_enter]
  have ea : (#[y].map a.eval ++ #[] : Array Value) = #[a.eval y] := by simp
  rw [ea, hd, hyv]
  refine (C.nil none 0 w).mono ?_
  rintro e w' ⟨rfl, rfl⟩
  exact h.go ρ I _ _ (hrel.put (by rwa [Nat.blt_eq] at hN) ⟨#[], rfl, rfl, fun i hi => absurd hi (Nat.not_lt_zero i)⟩)
end
theorem compact0_c (f : Nat → Nat → PV) : PureC G.P 44 [.vsl 0 1 f] (fun r => r = .vsl 0 1 f) := by
  refine pure_of (G := G.toPg) (fn := Try.f44) Try.func44 rfl rfl rfl ?_; intro Γ hk
  repeat' (first | refine yo ?_ ?_ | refine yw ?_ ?_ | refine yk ?_ ?_ | exact trivial | with_reducible refine wA ?_ ?_ | refine ys ?_ ?_ | refine xs_done ?_ | refine yl ?_ ?_ | refine w8 ?_ | refine w9 ?_ | refine w1 ?_ | refine w2 ?_ | refine w3 ?_ | refine w4 ?_ | refine w5 ?_ | refine w6 ?_ | refine w7 ?_ | refine yo0 ?_ ?_ | refine yw0 ?_ ?_ | exact qq | fail)
  exact kretv rfl ⟨trivial, trivial⟩ rfl rfl
theorem vi_row {τ : Nat → Option Nat} {n : Nat} {g : Nat → Int} : RowEq (Row.ren τ (vRow c1 1 (n + 1) g)) (iRow (n + 1) g) := ⟨rfl, rfl, Nat.le_refl _, fun i hi j hj => by
  have hj : j < 1 := hj
  obtain rfl : j = 0 := by omega
  exact PEq.refl _⟩
def BodyOk (d : Df) : Prop := validS 32 d.body = true ∧ d.body.w ≤ 900000
set_option maxHeartbeats 8000000 in
theorem needs_c (nm : ByteArray) (l : List Df) (act : List Int) (i : Nat) (hi : i < l.length) (hl : l.length ≤ 1000000) (ha : act.length ≤ 1000000) (hin : ∀ x, x ∈ act → 0 ≤ x ∧ x < l.length) (hasc : act.Pairwise (· < ·)) (hb : BodyOk (lF dD l i)) : PureC G.P 27 [vA nm l, sV act, vi i] (fun r => r = .tup 2 (nthP [sV (needS l act i).1, vi (needS l act i).2])) := by
  have rc := (refs_c 32 _ hb.1 hb.2).nil
  have rl := refs_len (lF dD l i).body
  have hbw := hb.2
  have hX : needS l act i = if (refsE (lF dD l i).body).all (fun e => (meanI l act e).isSome) = true then (needL l act (refsE (lF dD l i).body), 0) else ([], 7) := rfl
  rw [hX]
  clear hX
  refine pure_of (G := G.toPg) (fn := Try.f27) Try.func27 rfl rfl rfl ?_; intro Γ hk
  repeat' (first | refine yo ?_ ?_ | refine yw ?_ ?_ | refine yk ?_ ?_ | exact trivial | with_reducible refine wA ?_ ?_ | refine ys ?_ ?_ | refine xs_done ?_ | refine yl ?_ ?_ | exact (show ((i : Nat) : Int).toNat < l.length by omega) | refine w8 ?_ | refine w9 ?_ | refine w1 ?_ | refine w2 ?_ | refine w3 ?_ | refine w4 ?_ | refine w5 ?_ | refine w6 ?_ | refine w7 ?_ | refine yo0 ?_ ?_ | refine yw0 ?_ ?_ | exact qq | fail)
  generalize hR : refsE (lF dD l i).body = R at *
  refine pop_rowsc [] rfl rfl rfl rfl rfl rfl .nil rc (by exact ⟨PEq.refl _, PEq.cl _ (fun i _ => clL_nth _ i (cX_cl _)), trivial⟩) ?_
  rintro r rows ⟨k, hk2, rfl, rfl⟩
  rcases k with _ | k
  all_goals
    refine ⟨_, _, rfl, ⟨v_cl cX_cl _ _ _, trivial⟩, rfl, ?_⟩
    repeat' (first | refine yo ?_ ?_ | refine yw ?_ ?_ | refine yk ?_ ?_ | exact trivial | with_reducible refine wA ?_ ?_ | refine ys ?_ ?_ | refine xs_done ?_ | refine yl ?_ ?_ | refine w8 ?_ | refine w9 ?_ | refine w1 ?_ | refine w2 ?_ | refine w3 ?_ | refine w4 ?_ | refine w5 ?_ | refine w6 ?_ | refine w7 ?_ | refine yo0 ?_ ?_ | refine yw0 ?_ ?_ | exact qq | fail)
    refine pcan (can_virt (vRow c1 1 0 (lF 0 [])) rfl) ?_
  · --
    refine pcan ((can_frz [1] (by intro l hl; rw [hk]; exact Nat.zero_le _) rfl (tm := [(1, sV act), (3, .ptr 0 0 0), (8, slP 0 2), (19, .vsl 0 10 (tF cX (lF .nil R))), (20, vi ((0 : Nat) : Int)), (21, vi ((0 : Nat) : Int))]) (by exact ⟨.inl rfl, .inl rfl, .inl rfl, .inr (arg_v (n := 0) (l := 1) cX_cl rfl (List.Mem.head _)), .inl rfl, .inl rfl, trivial⟩)).trans (can_rowsv [0, 2] (tm := [(1, sV act), (3, .ptr 0 0 0), (8, slP 0 1), (19, .vsl 0 10 (tF cX (lF .nil R))), (20, vi ((0 : Nat) : Int)), (21, vi ((0 : Nat) : Int))]) (rows := [rA1 nm l, vRow c1 1 0 (lF 0 (jsL l act (R.take 0)))]) (k0_sel hk rfl) rfl (.cons rfl (RowEq.cl (rA1_cl _ _)) (.cons rfl (RowEq.cl (v_cl c1_cl _ _ _)) .nil)) tmq)) ?_
    refine ploopN 1 ?_
    have hm : (jsL l act R).length = 0 := by have := jsL_len l act R; omega
    have hall : R.all (fun e => (meanI l act e).isSome) = true := by
      rw [List.all_eq_true]
      intro e he
      obtain ⟨j, hj, rfl⟩ := List.getElem_of_mem he
      omega
    rw [if_pos hall]
    have hJ0 : jsL l act R = [] := List.length_eq_zero_iff.1 hm
    have hN0 : needL l act R = [] := by
      rw [List.eq_nil_iff_forall_not_mem]
      intro x hx
      rw [← need_mem, hJ0] at hx
      exact List.not_mem_nil hx
    repeat' (first | refine yo ?_ ?_ | refine yw ?_ ?_ | refine yk ?_ ?_ | exact trivial | with_reducible refine wA ?_ ?_ | refine ys ?_ ?_ | refine xs_done ?_ | refine yl ?_ ?_ | refine w8 ?_ | refine w9 ?_ | refine w1 ?_ | refine w2 ?_ | refine w3 ?_ | refine w4 ?_ | refine w5 ?_ | refine w6 ?_ | refine w7 ?_ | refine yo0 ?_ ?_ | refine yw0 ?_ ?_ | exact qq | fail)
    refine pop_sort0 sortC rfl rfl rfl rfl rfl rfl ?_
    repeat' (first | refine yo ?_ ?_ | refine yw ?_ ?_ | refine yk ?_ ?_ | exact trivial | with_reducible refine wA ?_ ?_ | refine ys ?_ ?_ | refine xs_done ?_ | refine yl ?_ ?_ | refine w8 ?_ | refine w9 ?_ | refine w1 ?_ | refine w2 ?_ | refine w3 ?_ | refine w4 ?_ | refine w5 ?_ | refine w6 ?_ | refine w7 ?_ | refine yo0 ?_ ?_ | refine yw0 ?_ ?_ | exact qq | fail)
    refine pop_callc [] rfl rfl rfl rfl rfl rfl (fun _ h => by cases h) (compact0_c (tI (lF 0 []))) ⟨argNil, trivial⟩ ?_
    rintro _ rfl
    repeat' (first | refine yo ?_ ?_ | refine yw ?_ ?_ | refine yk ?_ ?_ | exact trivial | with_reducible refine wA ?_ ?_ | refine ys ?_ ?_ | refine xs_done ?_ | refine yl ?_ ?_ | refine w8 ?_ | refine w9 ?_ | refine w1 ?_ | refine w2 ?_ | refine w3 ?_ | refine w4 ?_ | refine w5 ?_ | refine w6 ?_ | refine w7 ?_ | refine yo0 ?_ ?_ | refine yw0 ?_ ?_ | exact qq | fail)
    refine kretv rfl ⟨trivial, trivial, trivial⟩ rfl ?_
    rw [hN0]; rfl
  · --
    refine pcan ((can_frz [1] (by intro l hl; rw [hk]; exact Nat.zero_le _) rfl (tm := [(1, sV act), (3, .ptr 0 0 0), (8, slP 0 2), (19, .vsl (k + 1) 10 (tF cX (lF .nil R))), (20, vi (((k + 1) : Nat) : Int)), (21, vi ((0 : Nat) : Int))]) (by exact ⟨.inl rfl, .inl rfl, .inl rfl, .inr (arg_v (n := (k + 1)) (l := 1) cX_cl rfl (List.Mem.head _)), .inl rfl, .inl rfl, trivial⟩)).trans (can_rowsv [0, 2] (tm := [(1, sV act), (3, .ptr 0 0 0), (8, slP 0 1), (19, .vsl (k + 1) 10 (tF cX (lF .nil R))), (20, vi (((k + 1) : Nat) : Int)), (21, vi ((0 : Nat) : Int))]) (rows := [rA1 nm l, vRow c1 1 0 (lF 0 (jsL l act (R.take 0)))]) (k0_sel hk rfl) rfl (.cons rfl (RowEq.cl (rA1_cl _ _)) (.cons rfl (RowEq.cl (v_cl c1_cl _ _ _)) .nil)) tmq)) ?_
    refine ploop (fun q st => ∃ i m : Nat, i ≤ (k + 1) ∧ (∀ j, j < i → (meanI l act (lF .nil R j)).isSome = true) ∧ (jsL l act (R.take i)).length = m ∧ q = (k + 1) - i ∧ st = ⟨[(1, sV act), (3, .ptr 0 0 0), (8, slP m 1), (19, .vsl (k + 1) 10 (tF cX (lF .nil R))), (20, vi (((k + 1) : Nat) : Int)), (21, vi i)], [rA1 nm l, vRow c1 1 m (lF 0 (jsL l act (R.take i)))]⟩) (k + 1) ⟨0, 0, Nat.zero_le _, fun j hj => absurd hj (Nat.not_lt_zero j), by rw [List.take_zero]; rfl, rfl, rfl⟩ ?_
    rintro _ _ ⟨i, m, hiK, hv, hm, rfl, rfl⟩
    have hw1 : IntKind.i64.wrap ((i : Int) + 1) = ((i + 1 : Nat) : Int) := w64 (by omega) (by omega)
    have hml := jsL_len l act (R.take i)
    rw [hm, List.length_take] at hml
    have hT : i < (k + 1) → R.take (i + 1) = R.take i ++ [lF .nil R i] := fun h => by
      unfold lF
      rw [List.take_add_one, List.getD_eq_getElem?_getD, List.getElem?_eq_getElem (by omega)]; rfl
    rcases m with _ | m
    all_goals
      repeat' (first | refine yo ?_ ?_ | refine yw ?_ ?_ | refine yk ?_ ?_ | exact trivial | with_reducible refine wA ?_ ?_ | refine ys ?_ ?_ | refine xs_done ?_ | refine yl ?_ ?_ | refine w8 ?_ | refine w9 ?_ | refine w1 ?_ | refine w2 ?_ | refine w3 ?_ | refine w4 ?_ | refine w5 ?_ | refine w6 ?_ | refine w7 ?_ | refine yo0 ?_ ?_ | refine yw0 ?_ ?_ | exact qq | fail)
      refine pcond rfl ?_ ?_ <;> intro hc
    · have hc : i < (k + 1) := by have := of_decide_eq_true hc; omega
      replace hT := hT hc
      have cm := meaning_c nm l act (lF .nil R i) hl ha hin
      have nx : ∀ {j : Int}, meanI l act (lF .nil R i) = some j → ∀ j', j' < i + 1 → (meanI l act (lF .nil R j')).isSome = true := fun hM j' hj' => by
        by_cases e : j' = i
        · subst e; rw [hM]; rfl
        · exact hv j' (by omega)
      cases hM : meanI l act (lF .nil R i) with
      | none =>
        rw [hM] at cm
        repeat' (first | refine yo ?_ ?_ | refine yw ?_ ?_ | refine yk ?_ ?_ | exact trivial | with_reducible refine wA ?_ ?_ | refine ys ?_ ?_ | refine xs_done ?_ | refine yl ?_ ?_ | refine z1 cm ?_ | refine z2 cm ?_ | refine z3 cm ?_ | refine z4 cm ?_ | refine z5 cm ?_ | refine w8 ?_ | refine w9 ?_ | refine w1 ?_ | refine w2 ?_ | refine w3 ?_ | refine w4 ?_ | refine w5 ?_ | refine w6 ?_ | refine w7 ?_ | refine yo0 ?_ ?_ | refine yw0 ?_ ?_ | exact qq | fail)
        refine kret [] rfl ⟨trivial, trivial, trivial⟩ (qs := [.vsl 0 1 (tI (lF 0 [])), vi 7]) ⟨argNil, argVal, trivial⟩ ?_
        rw [if_neg]
        · rfl
        · intro hall
          have := List.all_eq_true.1 hall (lF .nil R i) (by unfold lF; rw [List.getD_eq_getElem?_getD, List.getElem?_eq_getElem (by omega)]; exact List.getElem_mem _)
          rw [hM] at this; cases this
      | some j =>
        rw [hM] at cm
        have hj : 0 ≤ j ∧ j < l.length := by
          rcases meanI_mem hM with ⟨h1, h2, _⟩ | h
          · exact ⟨h1, h2⟩
          · exact hin j h
        have hj2 : j.toNat < l.length := by omega
        have cc := computed_c (lF dD l j.toNat)
        have hS := jsL_snoc (R := R.take i) hM
        rw [← hT] at hS
        repeat' (first | refine yo ?_ ?_ | refine yw ?_ ?_ | refine yk ?_ ?_ | exact trivial | with_reducible refine wA ?_ ?_ | refine ys ?_ ?_ | refine xs_done ?_ | refine yl ?_ ?_ | exact ⟨hj.1, hj.2⟩ | exact hj2 | refine z1 cm ?_ | refine z2 cm ?_ | refine z3 cm ?_ | refine z4 cm ?_ | refine z5 cm ?_ | refine z1 cc ?_ | refine z2 cc ?_ | refine z3 cc ?_ | refine z4 cc ?_ | refine z5 cc ?_ | refine w8 ?_ | refine w9 ?_ | refine w1 ?_ | refine w2 ?_ | refine w3 ?_ | refine w4 ?_ | refine w5 ?_ | refine w6 ?_ | refine w7 ?_ | refine yo0 ?_ ?_ | refine yw0 ?_ ?_ | exact qq | fail)
        refine pcond rfl ?_ ?_ <;> intro hcm
        · rw [if_pos hcm] at hS
          repeat' (first | refine yo ?_ ?_ | refine yw ?_ ?_ | refine yk ?_ ?_ | exact trivial | with_reducible refine wA ?_ ?_ | refine ys ?_ ?_ | refine xs_done ?_ | refine yl ?_ ?_ | exact ⟨Nat.le_refl _, (by rw [hk]; exact Nat.le_of_ble_eq_true rfl), Nat.le_of_eq (Nat.zero_add _), (show (_ : Nat) * 8 ≤ 140737488355328 from by omega), (show (_ : Nat) ≤ 9223372036854775807 from by omega)⟩ | refine w8 ?_ | refine w9 ?_ | refine w1 ?_ | refine w2 ?_ | refine w3 ?_ | refine w4 ?_ | refine w5 ?_ | refine w6 ?_ | refine w7 ?_ | refine yo0 ?_ ?_ | refine yw0 ?_ ?_ | exact qq | fail)
          rw [hw1]
          exact kloop_next (st' := ⟨[(1, sV act), (3, .ptr 0 0 0), (8, slP (0 + 1) 1), (19, .vsl (k + 1) 10 (tF cX (lF .nil R))), (20, vi (((k + 1) : Nat) : Int)), (21, vi ((i + 1 : Nat) : Int))], [rA1 nm l, vRow c1 1 (0 + 1) (lF 0 (jsL l act (R.take i) ++ [j]))]⟩) ((k + 1) - (i + 1)) (can_rowsv [0, 4] (k0_sel hk rfl) rfl (.cons rfl (RowEq.cl (rA1_cl _ _)) (.cons rfl (app_l0 c1_cl hm rfl) .nil)) tmq) (by omega) ⟨i + 1, (0 + 1), by omega, nx hM, by rw [hS, List.length_append, hm]; rfl, rfl, by rw [hS]⟩
        · rw [if_neg (by rw [hcm]; decide), List.append_nil] at hS
          repeat' (first | refine yo ?_ ?_ | refine yw ?_ ?_ | refine yk ?_ ?_ | exact trivial | with_reducible refine wA ?_ ?_ | refine ys ?_ ?_ | refine xs_done ?_ | refine yl ?_ ?_ | refine w8 ?_ | refine w9 ?_ | refine w1 ?_ | refine w2 ?_ | refine w3 ?_ | refine w4 ?_ | refine w5 ?_ | refine w6 ?_ | refine w7 ?_ | refine yo0 ?_ ?_ | refine yw0 ?_ ?_ | exact qq | fail)
          rw [hw1]
          exact kloop_next (st' := ⟨[(1, sV act), (3, .ptr 0 0 0), (8, slP 0 1), (19, .vsl (k + 1) 10 (tF cX (lF .nil R))), (20, vi (((k + 1) : Nat) : Int)), (21, vi ((i + 1 : Nat) : Int))], [rA1 nm l, vRow c1 1 0 (lF 0 (jsL l act (R.take i)))]⟩) ((k + 1) - (i + 1)) (can_rowsv [0, 1] (k0_sel hk rfl) rfl (.cons rfl (RowEq.cl (rA1_cl _ _)) (.cons rfl (RowEq.cl (v_cl c1_cl _ _ _)) .nil)) tmq) (by omega) ⟨i + 1, 0, by omega, nx hM, by rw [hS]; exact hm, rfl, by rw [hS]⟩
    · have hiK2 : i = (k + 1) := by have := of_decide_eq_false hc; omega
      subst hiK2
      have hTk : R.take (k + 1) = R := List.take_of_length_le (by omega)
      rw [hTk] at hm
      have hall : R.all (fun e => (meanI l act e).isSome) = true := by
        rw [List.all_eq_true]
        intro e he
        obtain ⟨j, hj, rfl⟩ := List.getElem_of_mem he
        have := hv j (by omega)
        unfold lF at this
        rwa [List.getD_eq_getElem?_getD, List.getElem?_eq_getElem hj] at this
      rw [if_pos hall, hTk]
      have hJ0 : jsL l act R = [] := List.length_eq_zero_iff.1 hm
      have hN0 : needL l act R = [] := by
        rw [List.eq_nil_iff_forall_not_mem]
        intro x hx
        rw [← need_mem, hJ0] at hx
        exact List.not_mem_nil hx
      repeat' (first | refine yo ?_ ?_ | refine yw ?_ ?_ | refine yk ?_ ?_ | exact trivial | with_reducible refine wA ?_ ?_ | refine ys ?_ ?_ | refine xs_done ?_ | refine yl ?_ ?_ | refine w8 ?_ | refine w9 ?_ | refine w1 ?_ | refine w2 ?_ | refine w3 ?_ | refine w4 ?_ | refine w5 ?_ | refine w6 ?_ | refine w7 ?_ | refine yo0 ?_ ?_ | refine yw0 ?_ ?_ | exact qq | fail)
      refine pop_sort0 sortC rfl rfl rfl rfl rfl rfl ?_
      repeat' (first | refine yo ?_ ?_ | refine yw ?_ ?_ | refine yk ?_ ?_ | exact trivial | with_reducible refine wA ?_ ?_ | refine ys ?_ ?_ | refine xs_done ?_ | refine yl ?_ ?_ | refine w8 ?_ | refine w9 ?_ | refine w1 ?_ | refine w2 ?_ | refine w3 ?_ | refine w4 ?_ | refine w5 ?_ | refine w6 ?_ | refine w7 ?_ | refine yo0 ?_ ?_ | refine yw0 ?_ ?_ | exact qq | fail)
      refine pop_callc [] rfl rfl rfl rfl rfl rfl (fun _ h => by cases h) (compact0_c (tI (lF 0 []))) ⟨argNil, trivial⟩ ?_
      rintro _ rfl
      repeat' (first | refine yo ?_ ?_ | refine yw ?_ ?_ | refine yk ?_ ?_ | exact trivial | with_reducible refine wA ?_ ?_ | refine ys ?_ ?_ | refine xs_done ?_ | refine yl ?_ ?_ | refine w8 ?_ | refine w9 ?_ | refine w1 ?_ | refine w2 ?_ | refine w3 ?_ | refine w4 ?_ | refine w5 ?_ | refine w6 ?_ | refine w7 ?_ | refine yo0 ?_ ?_ | refine yw0 ?_ ?_ | exact qq | fail)
      refine kretv rfl ⟨trivial, trivial, trivial⟩ rfl ?_
      rw [hN0]; rfl
    · have hc : i < (k + 1) := by have := of_decide_eq_true hc; omega
      replace hT := hT hc
      have cm := meaning_c nm l act (lF .nil R i) hl ha hin
      have nx : ∀ {j : Int}, meanI l act (lF .nil R i) = some j → ∀ j', j' < i + 1 → (meanI l act (lF .nil R j')).isSome = true := fun hM j' hj' => by
        by_cases e : j' = i
        · subst e; rw [hM]; rfl
        · exact hv j' (by omega)
      cases hM : meanI l act (lF .nil R i) with
      | none =>
        rw [hM] at cm
        repeat' (first | refine yo ?_ ?_ | refine yw ?_ ?_ | refine yk ?_ ?_ | exact trivial | with_reducible refine wA ?_ ?_ | refine ys ?_ ?_ | refine xs_done ?_ | refine yl ?_ ?_ | refine z1 cm ?_ | refine z2 cm ?_ | refine z3 cm ?_ | refine z4 cm ?_ | refine z5 cm ?_ | refine w8 ?_ | refine w9 ?_ | refine w1 ?_ | refine w2 ?_ | refine w3 ?_ | refine w4 ?_ | refine w5 ?_ | refine w6 ?_ | refine w7 ?_ | refine yo0 ?_ ?_ | refine yw0 ?_ ?_ | exact qq | fail)
        refine kret [] rfl ⟨trivial, trivial, trivial⟩ (qs := [.vsl 0 1 (tI (lF 0 [])), vi 7]) ⟨argNil, argVal, trivial⟩ ?_
        rw [if_neg]
        · rfl
        · intro hall
          have := List.all_eq_true.1 hall (lF .nil R i) (by unfold lF; rw [List.getD_eq_getElem?_getD, List.getElem?_eq_getElem (by omega)]; exact List.getElem_mem _)
          rw [hM] at this; cases this
      | some j =>
        rw [hM] at cm
        have hj : 0 ≤ j ∧ j < l.length := by
          rcases meanI_mem hM with ⟨h1, h2, _⟩ | h
          · exact ⟨h1, h2⟩
          · exact hin j h
        have hj2 : j.toNat < l.length := by omega
        have cc := computed_c (lF dD l j.toNat)
        have hS := jsL_snoc (R := R.take i) hM
        rw [← hT] at hS
        repeat' (first | refine yo ?_ ?_ | refine yw ?_ ?_ | refine yk ?_ ?_ | exact trivial | with_reducible refine wA ?_ ?_ | refine ys ?_ ?_ | refine xs_done ?_ | refine yl ?_ ?_ | exact ⟨hj.1, hj.2⟩ | exact hj2 | refine z1 cm ?_ | refine z2 cm ?_ | refine z3 cm ?_ | refine z4 cm ?_ | refine z5 cm ?_ | refine z1 cc ?_ | refine z2 cc ?_ | refine z3 cc ?_ | refine z4 cc ?_ | refine z5 cc ?_ | refine w8 ?_ | refine w9 ?_ | refine w1 ?_ | refine w2 ?_ | refine w3 ?_ | refine w4 ?_ | refine w5 ?_ | refine w6 ?_ | refine w7 ?_ | refine yo0 ?_ ?_ | refine yw0 ?_ ?_ | exact qq | fail)
        refine pcond rfl ?_ ?_ <;> intro hcm
        · rw [if_pos hcm] at hS
          repeat' (first | refine yo ?_ ?_ | refine yw ?_ ?_ | refine yk ?_ ?_ | exact trivial | with_reducible refine wA ?_ ?_ | refine ys ?_ ?_ | refine xs_done ?_ | refine yl ?_ ?_ | exact ⟨Nat.le_refl _, (by rw [hk]; exact Nat.le_of_ble_eq_true rfl), Nat.le_of_eq (Nat.zero_add _), (show (_ : Nat) * 8 ≤ 140737488355328 from by omega), (show (_ : Nat) ≤ 9223372036854775807 from by omega)⟩ | refine w8 ?_ | refine w9 ?_ | refine w1 ?_ | refine w2 ?_ | refine w3 ?_ | refine w4 ?_ | refine w5 ?_ | refine w6 ?_ | refine w7 ?_ | refine yo0 ?_ ?_ | refine yw0 ?_ ?_ | exact qq | fail)
          rw [hw1]
          exact kloop_next (st' := ⟨[(1, sV act), (3, .ptr 0 0 0), (8, slP (m + 1 + 1) 1), (19, .vsl (k + 1) 10 (tF cX (lF .nil R))), (20, vi (((k + 1) : Nat) : Int)), (21, vi ((i + 1 : Nat) : Int))], [rA1 nm l, vRow c1 1 (m + 1 + 1) (lF 0 (jsL l act (R.take i) ++ [j]))]⟩) ((k + 1) - (i + 1)) (can_rowsv [0, 4] (k0_sel hk rfl) rfl (.cons rfl (RowEq.cl (rA1_cl _ _)) (.cons rfl (app_l c1_cl hm rfl rfl) .nil)) tmq) (by omega) ⟨i + 1, (m + 1 + 1), by omega, nx hM, by rw [hS, List.length_append, hm]; rfl, rfl, by rw [hS]⟩
        · rw [if_neg (by rw [hcm]; decide), List.append_nil] at hS
          repeat' (first | refine yo ?_ ?_ | refine yw ?_ ?_ | refine yk ?_ ?_ | exact trivial | with_reducible refine wA ?_ ?_ | refine ys ?_ ?_ | refine xs_done ?_ | refine yl ?_ ?_ | refine w8 ?_ | refine w9 ?_ | refine w1 ?_ | refine w2 ?_ | refine w3 ?_ | refine w4 ?_ | refine w5 ?_ | refine w6 ?_ | refine w7 ?_ | refine yo0 ?_ ?_ | refine yw0 ?_ ?_ | exact qq | fail)
          rw [hw1]
          exact kloop_next (st' := ⟨[(1, sV act), (3, .ptr 0 0 0), (8, slP (m + 1) 1), (19, .vsl (k + 1) 10 (tF cX (lF .nil R))), (20, vi (((k + 1) : Nat) : Int)), (21, vi ((i + 1 : Nat) : Int))], [rA1 nm l, vRow c1 1 (m + 1) (lF 0 (jsL l act (R.take i)))]⟩) ((k + 1) - (i + 1)) (can_rowsv [0, 1] (k0_sel hk rfl) rfl (.cons rfl (RowEq.cl (rA1_cl _ _)) (.cons rfl (RowEq.cl (v_cl c1_cl _ _ _)) .nil)) tmq) (by omega) ⟨i + 1, (m + 1), by omega, nx hM, by rw [hS]; exact hm, rfl, by rw [hS]⟩
    · have hiK2 : i = (k + 1) := by have := of_decide_eq_false hc; omega
      subst hiK2
      have hTk : R.take (k + 1) = R := List.take_of_length_le (by omega)
      rw [hTk] at hm
      have hall : R.all (fun e => (meanI l act e).isSome) = true := by
        rw [List.all_eq_true]
        intro e he
        obtain ⟨j, hj, rfl⟩ := List.getElem_of_mem he
        have := hv j (by omega)
        unfold lF at this
        rwa [List.getD_eq_getElem?_getD, List.getElem?_eq_getElem hj] at this
      rw [if_pos hall, hTk]
      have hbd : m + 1 ≤ 900000 := by omega
      repeat' (first | refine yo ?_ ?_ | refine yw ?_ ?_ | refine yk ?_ ?_ | exact trivial | with_reducible refine wA ?_ ?_ | refine ys ?_ ?_ | refine xs_done ?_ | refine yl ?_ ?_ | refine w8 ?_ | refine w9 ?_ | refine w1 ?_ | refine w2 ?_ | refine w3 ?_ | refine w4 ?_ | refine w5 ?_ | refine w6 ?_ | refine w7 ?_ | refine yo0 ?_ ?_ | refine yw0 ?_ ?_ | exact qq | fail)
      refine ocan0 (st' := ⟨[(8, .lsl 0 0 (m + 1)), (45, .lsl 0 0 (m + 1))], [iRow (m + 1) (lF 0 (jsL l act R))]⟩) (can_rowsv [1] (k0_sel hk rfl) rfl (.cons rfl vi_row .nil) tmq) ?_
      refine pop_sort sortC rfl rfl rfl rfl rfl rfl (D := jsL l act R) hm (by omega) rfl rfl ?_
      repeat' (first | refine yo ?_ ?_ | refine yw ?_ ?_ | refine yk ?_ ?_ | exact trivial | with_reducible refine wA ?_ ?_ | refine ys ?_ ?_ | refine xs_done ?_ | refine yl ?_ ?_ | refine w8 ?_ | refine w9 ?_ | refine w1 ?_ | refine w2 ?_ | refine w3 ?_ | refine w4 ?_ | refine w5 ?_ | refine w6 ?_ | refine w7 ?_ | refine yo0 ?_ ?_ | refine yw0 ?_ ?_ | exact qq | fail)
      refine pop_rowsc [0] rfl rfl rfl rfl rfl rfl (.cons rfl trivial (RowEq.cl (i_cl _ _)) .nil) (compact_r (m + 1) (sortL (jsL l act R)) (by rw [sortL_len, hm]) (sortL_sorted _) (by omega)) (by exact ⟨PEq.refl _, trivial⟩) ?_
      rintro _ _ ⟨C, hC, rfl, rfl⟩
      refine ⟨_, _, rfl, ⟨i_cl _ _, trivial⟩, rfl, ?_⟩
      have hCe := need_uniq hasc hC
      rw [← hCe]
      repeat' (first | refine yo ?_ ?_ | refine yw ?_ ?_ | refine yk ?_ ?_ | exact trivial | with_reducible refine wA ?_ ?_ | refine ys ?_ ?_ | refine xs_done ?_ | refine yl ?_ ?_ | refine w8 ?_ | refine w9 ?_ | refine w1 ?_ | refine w2 ?_ | refine w3 ?_ | refine w4 ?_ | refine w5 ?_ | refine w6 ?_ | refine w7 ?_ | refine yo0 ?_ ?_ | refine yw0 ?_ ?_ | exact qq | fail)
      refine xdone ?_
      refine kret [0] rfl ⟨trivial, trivial, trivial⟩ (qs := [sV C, vi 0]) ⟨argLsl (r := iRow C.length (lF 0 C)) rfl trivial (List.Mem.head _) (by show 0 + C.length ≤ C.length; omega) (fun a ha b hb => ⟨by rw [Nat.zero_add]; rfl, trivial⟩), argVal, trivial⟩ rfl
end Go.Proofs.Ytcefhgomkehokaa
namespace Go.Proofs.Ytcefhgomkehokaa
structure PrdC1 (F : FuncId) (c : Nat → PV) (p : Int → Bool) : Prop where
  c0 : Cl (c 0)
  run : ∀ x, PureC G.P F [vi x, c 0] (fun r => r = vb (p x))
theorem PrdC1.cl {F : FuncId} {c : Nat → PV} {p : Int → Bool} (h : PrdC1 F c p) : Cl (.clo F 1 c) := fun i hi => by
  obtain rfl : i = 0 := by omega
  exact h.c0
theorem PrdC1.eq {F : FuncId} {c : Nat → PV} {p : Int → Bool} (h : PrdC1 F c p) {τ : Nat → Option Nat} : PEq ((PV.clo F 1 c).ren τ) (.clo F 1 c) := PEq.cl _ h.cl
theorem indexFunc1_c (n : Nat) (g : Nat → Int) (F : FuncId) (c : Nat → PV) (p : Int → Bool) (hF : PrdC1 F c p) (hn : n ≤ 1000000000) :
    PureC G.P 34 [.vsl n 1 (tI g), .clo F 1 c] (fun r => ∃ i : Nat, i ≤ n ∧ (∀ j, j < i → p (g j) = false) ∧ ((i < n ∧ p (g i) = true ∧ r = vi i) ∨ (i = n ∧ r = vi (-1)))) := by
  refine pure_of (G := G.toPg) (fn := Try.f34) Try.func34 rfl rfl rfl ?_; intro Γ hk
  repeat' (first | refine yo ?_ ?_ | refine yw ?_ ?_ | refine yk ?_ ?_ | exact trivial | with_reducible refine wA ?_ ?_ | refine ys ?_ ?_ | refine xs_done ?_ | refine yl ?_ ?_ | refine w8 ?_ | refine w9 ?_ | refine w1 ?_ | refine w2 ?_ | refine w3 ?_ | refine w4 ?_ | refine w5 ?_ | refine w6 ?_ | refine w7 ?_ | refine yo0 ?_ ?_ | refine yw0 ?_ ?_ | exact qq | fail)
  refine pcan (st' := ⟨[(0, .vsl n 1 (tI g)), (1, .clo F 1 c), (7, vi n), (8, vi ((0 : Nat) : Int))], []⟩) (can_rowsv [] (k0_sel hk rfl) rfl .nil (by exact ⟨PEq.refl _, hF.eq, PEq.refl _, PEq.refl _, trivial⟩)) ?_
  refine ploop (fun q st => ∃ i : Nat, i ≤ n ∧ (∀ j, j < i → p (g j) = false) ∧ q = n - i ∧ st = ⟨[(0, .vsl n 1 (tI g)), (1, .clo F 1 c), (7, vi n), (8, vi i)], []⟩) n ⟨0, by omega, fun j hj => by omega, rfl, rfl⟩ ?_
  rintro _ _ ⟨i, hi, hv, rfl, rfl⟩
  repeat' (first | refine yo ?_ ?_ | refine yw ?_ ?_ | refine yk ?_ ?_ | exact trivial | with_reducible refine wA ?_ ?_ | refine ys ?_ ?_ | refine xs_done ?_ | refine yl ?_ ?_ | refine w8 ?_ | refine w9 ?_ | refine w1 ?_ | refine w2 ?_ | refine w3 ?_ | refine w4 ?_ | refine w5 ?_ | refine w6 ?_ | refine w7 ?_ | refine yo0 ?_ ?_ | refine yw0 ?_ ?_ | exact qq | fail)
  refine pcond rfl ?_ ?_ <;> intro hc <;> simp at hc
  · repeat' (first | refine yo ?_ ?_ | refine yw ?_ ?_ | refine yk ?_ ?_ | exact trivial | with_reducible refine wA ?_ ?_ | refine ys ?_ ?_ | refine xs_done ?_ | refine yl ?_ ?_ | refine w8 ?_ | refine w9 ?_ | refine w1 ?_ | refine w2 ?_ | refine w3 ?_ | refine w4 ?_ | refine w5 ?_ | refine w6 ?_ | refine w7 ?_ | refine yo0 ?_ ?_ | refine yw0 ?_ ?_ | exact qq | fail)
    refine pop_rowsc [] rfl rfl rfl rfl rfl rfl .nil (pure_rows (hF.run (g i))) (by exact ⟨PEq.refl _, PEq.cl _ hF.c0, trivial⟩) ?_
    rintro _ _ ⟨rfl, rfl⟩
    refine ⟨_, _, rfl, trivial, rfl, ?_⟩
    cases hp : p (g i) with
    | true =>
      repeat' (first | refine yo ?_ ?_ | refine yw ?_ ?_ | refine yk ?_ ?_ | exact trivial | with_reducible refine wA ?_ ?_ | refine ys ?_ ?_ | refine xs_done ?_ | refine yl ?_ ?_ | refine w8 ?_ | refine w9 ?_ | refine w1 ?_ | refine w2 ?_ | refine w3 ?_ | refine w4 ?_ | refine w5 ?_ | refine w6 ?_ | refine w7 ?_ | refine yo0 ?_ ?_ | refine yw0 ?_ ?_ | exact qq | fail)
      exact kret [] rfl ⟨trivial, trivial⟩ (qs := [vi i]) ⟨argVal, trivial⟩ ⟨i, by omega, hv, .inl ⟨hc, hp, rfl⟩⟩
    | false =>
      repeat' (first | refine yo ?_ ?_ | refine yw ?_ ?_ | refine yk ?_ ?_ | exact trivial | with_reducible refine wA ?_ ?_ | refine ys ?_ ?_ | refine xs_done ?_ | refine yl ?_ ?_ | refine w8 ?_ | refine w9 ?_ | refine w1 ?_ | refine w2 ?_ | refine w3 ?_ | refine w4 ?_ | refine w5 ?_ | refine w6 ?_ | refine w7 ?_ | refine yo0 ?_ ?_ | refine yw0 ?_ ?_ | exact qq | fail)
      rw [show IntKind.i64.wrap ((i : Int) + 1) = ((i + 1 : Nat) : Int) from w64 (by omega) (by omega)]
      exact kloop_next (st' := ⟨[(0, .vsl n 1 (tI g)), (1, .clo F 1 c), (7, vi n), (8, vi ((i + 1 : Nat) : Int))], []⟩) (n - (i + 1)) (can_rowsv [] (k0_sel hk rfl) rfl .nil (by exact ⟨PEq.refl _, hF.eq, PEq.refl _, PEq.refl _, trivial⟩)) (by omega) ⟨i + 1, by omega, fun j hj => by
        by_cases e : j = i
        · subst e; exact hp
        · exact hv j (by omega), rfl, rfl⟩
  · have hin : i = n := by omega
    subst hin
    repeat' (first | refine yo ?_ ?_ | refine yw ?_ ?_ | refine yk ?_ ?_ | exact trivial | with_reducible refine wA ?_ ?_ | refine ys ?_ ?_ | refine xs_done ?_ | refine yl ?_ ?_ | refine w8 ?_ | refine w9 ?_ | refine w1 ?_ | refine w2 ?_ | refine w3 ?_ | refine w4 ?_ | refine w5 ?_ | refine w6 ?_ | refine w7 ?_ | refine yo0 ?_ ?_ | refine yw0 ?_ ?_ | exact qq | fail)
    exact kret [] rfl ⟨trivial, trivial⟩ (qs := [vi (-1)]) ⟨argVal, trivial⟩ ⟨i, by omega, hv, .inr ⟨rfl, rfl⟩⟩
theorem containsFunc1_c (L : List Int) (F : FuncId) (c : Nat → PV) (p : Int → Bool) (hF : PrdC1 F c p) (hn : L.length ≤ 1000000000) : PureC G.P 36 [.vsl L.length 1 (tI (lF 0 L)), .clo F 1 c] (fun r => r = vb (L.any p)) := by
  have c1 := indexFunc1_c L.length (lF 0 L) F c p hF hn
  refine pure_of (G := G.toPg) (fn := Try.f36) Try.func36 rfl rfl rfl ?_; intro Γ hk
  repeat' (first | refine yo ?_ ?_ | refine yw ?_ ?_ | refine yk ?_ ?_ | exact trivial | with_reducible refine wA ?_ ?_ | refine ys ?_ ?_ | refine xs_done ?_ | refine yl ?_ ?_ | refine w8 ?_ | refine w9 ?_ | refine w1 ?_ | refine w2 ?_ | refine w3 ?_ | refine w4 ?_ | refine w5 ?_ | refine w6 ?_ | refine w7 ?_ | refine yo0 ?_ ?_ | refine yw0 ?_ ?_ | exact qq | fail)
  refine pop_call [] rfl rfl rfl rfl rfl c1 ⟨argVsl, argCl hF.cl, trivial⟩ ?_
  rintro _ ⟨i, hi, hv, ⟨hin, hp, rfl⟩ | ⟨rfl, rfl⟩⟩
  · refine ⟨trivial, ?_⟩
    repeat' (first | refine yo ?_ ?_ | refine yw ?_ ?_ | refine yk ?_ ?_ | exact trivial | with_reducible refine wA ?_ ?_ | refine ys ?_ ?_ | refine xs_done ?_ | refine yl ?_ ?_ | refine w8 ?_ | refine w9 ?_ | refine w1 ?_ | refine w2 ?_ | refine w3 ?_ | refine w4 ?_ | refine w5 ?_ | refine w6 ?_ | refine w7 ?_ | refine yo0 ?_ ?_ | refine yw0 ?_ ?_ | exact qq | fail)
    refine kretv rfl ⟨trivial, trivial⟩ rfl (eqB ?_)
    have : L.any p = true := by
      rw [lF_get' hin] at hp
      exact List.any_eq_true.2 ⟨_, List.getElem_mem hin, hp⟩
    rw [this]; simp
  · refine ⟨trivial, ?_⟩
    repeat' (first | refine yo ?_ ?_ | refine yw ?_ ?_ | refine yk ?_ ?_ | exact trivial | with_reducible refine wA ?_ ?_ | refine ys ?_ ?_ | refine xs_done ?_ | refine yl ?_ ?_ | refine w8 ?_ | refine w9 ?_ | refine w1 ?_ | refine w2 ?_ | refine w3 ?_ | refine w4 ?_ | refine w5 ?_ | refine w6 ?_ | refine w7 ?_ | refine yo0 ?_ ?_ | refine yw0 ?_ ?_ | exact qq | fail)
    refine kretv rfl ⟨trivial, trivial⟩ rfl (eqB ?_)
    have : L.any p = false := by
      rw [List.any_eq_false]
      intro x hx
      obtain ⟨j, hj, rfl⟩ := List.getElem_of_mem hx
      have := hv j hj
      rw [lF_get' hj] at this
      simp [this]
    rw [this]; rfl
theorem index_c (L : List Int) (x : Int) (hn : L.length ≤ 1000000000) : PureC G.P 40 [.vsl L.length 1 (tI (lF 0 L)), vi x] (fun r => ∃ i : Nat, (x ∈ L ∧ r = vi i) ∨ (¬ x ∈ L ∧ r = vi (-1))) := by
  refine pure_of (G := G.toPg) (fn := Try.f40) Try.func40 rfl rfl rfl ?_; intro Γ hk
  repeat' (first | refine yo ?_ ?_ | refine yw ?_ ?_ | refine yk ?_ ?_ | exact trivial | with_reducible refine wA ?_ ?_ | refine ys ?_ ?_ | refine xs_done ?_ | refine yl ?_ ?_ | refine w8 ?_ | refine w9 ?_ | refine w1 ?_ | refine w2 ?_ | refine w3 ?_ | refine w4 ?_ | refine w5 ?_ | refine w6 ?_ | refine w7 ?_ | refine yo0 ?_ ?_ | refine yw0 ?_ ?_ | exact qq | fail)
  refine pcan (st' := ⟨[(0, .vsl L.length 1 (tI (lF 0 L))), (1, vi x), (7, vi L.length), (8, vi ((0 : Nat) : Int))], []⟩) (can_rowsv [] (k0_sel hk rfl) rfl .nil tmq) ?_
  refine ploop (fun q st => ∃ i : Nat, i ≤ L.length ∧ (∀ j, j < i → lF 0 L j ≠ x) ∧ q = L.length - i ∧ st = ⟨[(0, .vsl L.length 1 (tI (lF 0 L))), (1, vi x), (7, vi L.length), (8, vi i)], []⟩) L.length ⟨0, by omega, fun j hj => by omega, rfl, rfl⟩ ?_
  rintro _ _ ⟨i, hi, hv, rfl, rfl⟩
  repeat' (first | refine yo ?_ ?_ | refine yw ?_ ?_ | refine yk ?_ ?_ | exact trivial | with_reducible refine wA ?_ ?_ | refine ys ?_ ?_ | refine xs_done ?_ | refine yl ?_ ?_ | refine w8 ?_ | refine w9 ?_ | refine w1 ?_ | refine w2 ?_ | refine w3 ?_ | refine w4 ?_ | refine w5 ?_ | refine w6 ?_ | refine w7 ?_ | refine yo0 ?_ ?_ | refine yw0 ?_ ?_ | exact qq | fail)
  refine pcond rfl ?_ ?_ <;> intro hc
  · have hc : i < L.length := by have := of_decide_eq_true hc; omega
    repeat' (first | refine yo ?_ ?_ | refine yw ?_ ?_ | refine yk ?_ ?_ | exact trivial | with_reducible refine wA ?_ ?_ | refine ys ?_ ?_ | refine xs_done ?_ | refine yl ?_ ?_ | refine w8 ?_ | refine w9 ?_ | refine w1 ?_ | refine w2 ?_ | refine w3 ?_ | refine w4 ?_ | refine w5 ?_ | refine w6 ?_ | refine w7 ?_ | refine yo0 ?_ ?_ | refine yw0 ?_ ?_ | exact qq | fail)
    refine pcond (b := decide (x = lF 0 L i)) (eqB (by rw [Bool.eq_iff_iff]; simp)) ?_ ?_ <;> intro h1
    · have h1 := of_decide_eq_true h1
      repeat' (first | refine yo ?_ ?_ | refine yw ?_ ?_ | refine yk ?_ ?_ | exact trivial | with_reducible refine wA ?_ ?_ | refine ys ?_ ?_ | refine xs_done ?_ | refine yl ?_ ?_ | refine w8 ?_ | refine w9 ?_ | refine w1 ?_ | refine w2 ?_ | refine w3 ?_ | refine w4 ?_ | refine w5 ?_ | refine w6 ?_ | refine w7 ?_ | refine yo0 ?_ ?_ | refine yw0 ?_ ?_ | exact qq | fail)
      exact kretv rfl ⟨trivial, trivial⟩ rfl ⟨i, .inl ⟨by rw [h1, lF_get' hc]; exact List.getElem_mem hc, rfl⟩⟩
    · have h1 := of_decide_eq_false h1
      repeat' (first | refine yo ?_ ?_ | refine yw ?_ ?_ | refine yk ?_ ?_ | exact trivial | with_reducible refine wA ?_ ?_ | refine ys ?_ ?_ | refine xs_done ?_ | refine yl ?_ ?_ | refine w8 ?_ | refine w9 ?_ | refine w1 ?_ | refine w2 ?_ | refine w3 ?_ | refine w4 ?_ | refine w5 ?_ | refine w6 ?_ | refine w7 ?_ | refine yo0 ?_ ?_ | refine yw0 ?_ ?_ | exact qq | fail)
      rw [show IntKind.i64.wrap ((i : Int) + 1) = ((i + 1 : Nat) : Int) from w64 (by omega) (by omega)]
      exact kloop_next (st' := ⟨[(0, .vsl L.length 1 (tI (lF 0 L))), (1, vi x), (7, vi L.length), (8, vi ((i + 1 : Nat) : Int))], []⟩) (L.length - (i + 1)) (can_rowsv [] (k0_sel hk rfl) rfl .nil tmq) (by omega) ⟨i + 1, by omega, fun j hj => by
        by_cases e : j = i
        · subst e; exact fun h => h1 h.symm
        · exact hv j (by omega), rfl, rfl⟩
  · have hin : i = L.length := by have := of_decide_eq_false hc; omega
    subst hin
    repeat' (first | refine yo ?_ ?_ | refine yw ?_ ?_ | refine yk ?_ ?_ | exact trivial | with_reducible refine wA ?_ ?_ | refine ys ?_ ?_ | refine xs_done ?_ | refine yl ?_ ?_ | refine w8 ?_ | refine w9 ?_ | refine w1 ?_ | refine w2 ?_ | refine w3 ?_ | refine w4 ?_ | refine w5 ?_ | refine w6 ?_ | refine w7 ?_ | refine yo0 ?_ ?_ | refine yw0 ?_ ?_ | exact qq | fail)
    refine kretv rfl ⟨trivial, trivial⟩ rfl ⟨0, .inr ⟨fun hx => ?_, rfl⟩⟩
    obtain ⟨j, hj, rfl⟩ := List.getElem_of_mem hx
    exact hv j hj (lF_get' hj)
theorem contains_c (L : List Int) (x : Int) (hn : L.length ≤ 1000000000) : PureC G.P 25 [.vsl L.length 1 (tI (lF 0 L)), vi x] (fun r => r = vb (decide (x ∈ L))) := by
  have c1 := index_c L x hn
  refine pure_of (G := G.toPg) (fn := Try.f25) Try.func25 rfl rfl rfl ?_; intro Γ hk
  repeat' (first | refine yo ?_ ?_ | refine yw ?_ ?_ | refine yk ?_ ?_ | exact trivial | with_reducible refine wA ?_ ?_ | refine ys ?_ ?_ | refine xs_done ?_ | refine yl ?_ ?_ | refine w8 ?_ | refine w9 ?_ | refine w1 ?_ | refine w2 ?_ | refine w3 ?_ | refine w4 ?_ | refine w5 ?_ | refine w6 ?_ | refine w7 ?_ | refine yo0 ?_ ?_ | refine yw0 ?_ ?_ | exact qq | fail)
  refine pop_call [] rfl rfl rfl rfl rfl c1 ⟨argVsl, argVal, trivial⟩ ?_
  rintro _ ⟨i, ⟨h, rfl⟩ | ⟨h, rfl⟩⟩
  · refine ⟨trivial, ?_⟩
    repeat' (first | refine yo ?_ ?_ | refine yw ?_ ?_ | refine yk ?_ ?_ | exact trivial | with_reducible refine wA ?_ ?_ | refine ys ?_ ?_ | refine xs_done ?_ | refine yl ?_ ?_ | refine w8 ?_ | refine w9 ?_ | refine w1 ?_ | refine w2 ?_ | refine w3 ?_ | refine w4 ?_ | refine w5 ?_ | refine w6 ?_ | refine w7 ?_ | refine yo0 ?_ ?_ | refine yw0 ?_ ?_ | exact qq | fail)
    refine kretv rfl ⟨trivial, trivial⟩ rfl (eqB ?_)
    rw [decide_eq_true h]; simp
  · refine ⟨trivial, ?_⟩
    repeat' (first | refine yo ?_ ?_ | refine yw ?_ ?_ | refine yk ?_ ?_ | exact trivial | with_reducible refine wA ?_ ?_ | refine ys ?_ ?_ | refine xs_done ?_ | refine yl ?_ ?_ | refine w8 ?_ | refine w9 ?_ | refine w1 ?_ | refine w2 ?_ | refine w3 ?_ | refine w4 ?_ | refine w5 ?_ | refine w6 ?_ | refine w7 ?_ | refine yo0 ?_ ?_ | refine yw0 ?_ ?_ | exact qq | fail)
    refine kretv rfl ⟨trivial, trivial⟩ rfl (eqB ?_)
    rw [decide_eq_false h]; rfl
end Go.Proofs.Ytcefhgomkehokaa
namespace Go.Proofs.Ytcefhgomkehokaa
def mapIS : MapTS G.P 60 := ⟨3, 22, _, Try.underlying60, Try.underlying3, fun _ => rfl, Try.zeroValue22⟩
structure AgO (nm : ByteArray) (l : List Df) : Prop where
  nm : nm.size ≤ 9223372036854775807
  bd : ∀ d, d ∈ l → BdD d
  w : ∀ d, d ∈ l → d.body.w ≤ 900000
theorem agr_at {nm : ByteArray} {l : List Df} (h : agrS nm l = true) {i : Nat} (hi : i < l.length) : defS (lF dD l i) = true := by
  unfold agrS at h
  simp only [Bool.and_eq_true] at h
  have := List.all_eq_true.1 h.2.2 (lF dD l i) (by unfold lF; rw [List.getD_eq_getElem?_getD, List.getElem?_eq_getElem hi]; exact List.getElem_mem hi)
  simp only [Bool.and_eq_true] at this
  exact this.2
theorem comp_body {d : Df} (h : defS d = true) (hc : comp d = true) : validS 32 d.body = true := by
  unfold comp at hc
  have hc := of_decide_eq_true hc
  unfold defS at h
  rcases hc with hc | hc
  · rw [if_neg (by omega), if_neg (by omega), if_neg (by omega), if_pos hc] at h
    simp only [Bool.and_eq_true] at h
    exact h.2.2.2.1
  · rw [if_neg (by omega), if_neg (by omega), if_neg (by omega), if_neg (by omega), if_pos hc] at h
    simp only [Bool.and_eq_true] at h
    exact h.2.2.2.1
theorem AgO.body {nm : ByteArray} {l : List Df} (h : AgO nm l) (hv : agrS nm l = true) {i : Nat} (hi : i < l.length) (hc : comp (lF dD l i) = true) : BodyOk (lF dD l i) :=
  ⟨comp_body (agr_at hv hi) hc, h.w _ (by unfold lF; rw [List.getD_eq_getElem?_getD, List.getElem?_eq_getElem hi]; exact List.getElem_mem hi)⟩
theorem actL_in {l : List Df} {day : Int} : ∀ x, x ∈ actL l day → 0 ≤ x ∧ x < l.length := fun x hx => by
  obtain ⟨i, rfl, hi, _⟩ := actN_mem hx
  omega
theorem chk_valid {nm : ByteArray} {l : List Df} {day : Int} (h : chkE nm l day = 0) : agrS nm l = true := by
  unfold chkE at h
  cases hv : agrS nm l with
  | true => rfl
  | false => rw [if_pos hv] at h; cases h
theorem actL_len (l : List Df) (day : Int) : (actL l day).length ≤ l.length := actN_len l day l.length
def ActS (nm : ByteArray) (l : List Df) (day : Int) : List Int := if chkE nm l day = 0 then actL l day else []
set_option maxHeartbeats 4000000 in
theorem Active_c (nm : ByteArray) (l : List Df) (day : Int) (h : AgO nm l) (hl : l.length ≤ 1000000) : PureC G.P 11 [vA nm l, vi day] (fun r => r = sV (ActS nm l day)) := by
  have ck := check_c nm l day h.nm h.bd
  have ca := active_c nm l day hl
  refine pure_of (G := G.toPg) (fn := Try.f11) Try.func11 rfl rfl rfl ?_; intro Γ hk
  repeat' (first | refine yo ?_ ?_ | refine yw ?_ ?_ | refine yk ?_ ?_ | exact trivial | with_reducible refine wA ?_ ?_ | refine ys ?_ ?_ | refine xs_done ?_ | refine yl ?_ ?_ | refine z1 ck ?_ | refine z2 ck ?_ | refine z3 ck ?_ | refine z4 ck ?_ | refine z5 ck ?_ | refine w8 ?_ | refine w9 ?_ | refine w1 ?_ | refine w2 ?_ | refine w3 ?_ | refine w4 ?_ | refine w5 ?_ | refine w6 ?_ | refine w7 ?_ | refine yo0 ?_ ?_ | refine yw0 ?_ ?_ | exact qq | fail)
  refine pcond (b := decide (chkE nm l day ≠ 0)) (eqB (by rw [Bool.eq_iff_iff]; simp)) ?_ ?_ <;> intro h1
  · have h1 := of_decide_eq_true h1
    repeat' (first | refine yo ?_ ?_ | refine yw ?_ ?_ | refine yk ?_ ?_ | exact trivial | with_reducible refine wA ?_ ?_ | refine ys ?_ ?_ | refine xs_done ?_ | refine yl ?_ ?_ | refine w8 ?_ | refine w9 ?_ | refine w1 ?_ | refine w2 ?_ | refine w3 ?_ | refine w4 ?_ | refine w5 ?_ | refine w6 ?_ | refine w7 ?_ | refine yo0 ?_ ?_ | refine yw0 ?_ ?_ | exact qq | fail)
    refine kret [] rfl ⟨trivial, trivial⟩ (qs := [.vsl 0 1 (tI (lF 0 []))]) ⟨argNil, trivial⟩ ?_
    unfold ActS; rw [if_neg h1]; rfl
  · have h1 := Decidable.not_not.1 (of_decide_eq_false h1)
    repeat' (first | refine yo ?_ ?_ | refine yw ?_ ?_ | refine yk ?_ ?_ | exact trivial | with_reducible refine wA ?_ ?_ | refine ys ?_ ?_ | refine xs_done ?_ | refine yl ?_ ?_ | (refine pop_callc [] rfl rfl rfl rfl rfl rfl (fun _ h => by cases h) (ca) (args_cl _ rfl) ?_; rintro _ rfl) | refine w8 ?_ | refine w9 ?_ | refine w1 ?_ | refine w2 ?_ | refine w3 ?_ | refine w4 ?_ | refine w5 ?_ | refine w6 ?_ | refine w7 ?_ | refine yo0 ?_ ?_ | refine yw0 ?_ ?_ | exact qq | fail)
    refine kretv rfl ⟨trivial, trivial⟩ rfl ?_
    unfold ActS; rw [if_pos h1]; rfl
def NeedsS (nm : ByteArray) (l : List Df) (day i : Int) : List Int × Int :=
  if chkE nm l day ≠ 0 then ([], chkE nm l day) else if i ∈ actL l day ∧ comp (lF dD l i.toNat) = true then needS l (actL l day) i.toNat else ([], 16)
set_option maxHeartbeats 4000000 in
theorem Needs_c (nm : ByteArray) (l : List Df) (day i : Int) (h : AgO nm l) (hl : l.length ≤ 1000000) : PureC G.P 8 [vA nm l, vi day, vi i] (fun r => r = .tup 2 (nthP [sV (NeedsS nm l day i).1, vi (NeedsS nm l day i).2])) := by
  have ck := check_c nm l day h.nm h.bd
  have ca := active_c nm l day hl
  have hal := actL_len l day
  have cn := contains_c (actL l day) i (by omega)
  refine pure_of (G := G.toPg) (fn := Try.f8) Try.func8 rfl rfl rfl ?_; intro Γ hk
  repeat' (first | refine yo ?_ ?_ | refine yw ?_ ?_ | refine yk ?_ ?_ | exact trivial | with_reducible refine wA ?_ ?_ | refine ys ?_ ?_ | refine xs_done ?_ | refine yl ?_ ?_ | refine z1 ck ?_ | refine z2 ck ?_ | refine z3 ck ?_ | refine z4 ck ?_ | refine z5 ck ?_ | refine w8 ?_ | refine w9 ?_ | refine w1 ?_ | refine w2 ?_ | refine w3 ?_ | refine w4 ?_ | refine w5 ?_ | refine w6 ?_ | refine w7 ?_ | refine yo0 ?_ ?_ | refine yw0 ?_ ?_ | exact qq | fail)
  refine pcond (b := decide (chkE nm l day ≠ 0)) (eqB (by rw [Bool.eq_iff_iff]; simp)) ?_ ?_ <;> intro h1
  · have h1 := of_decide_eq_true h1
    repeat' (first | refine yo ?_ ?_ | refine yw ?_ ?_ | refine yk ?_ ?_ | exact trivial | with_reducible refine wA ?_ ?_ | refine ys ?_ ?_ | refine xs_done ?_ | refine yl ?_ ?_ | refine w8 ?_ | refine w9 ?_ | refine w1 ?_ | refine w2 ?_ | refine w3 ?_ | refine w4 ?_ | refine w5 ?_ | refine w6 ?_ | refine w7 ?_ | refine yo0 ?_ ?_ | refine yw0 ?_ ?_ | exact qq | fail)
    refine kret [] rfl ⟨trivial, trivial, trivial⟩ (qs := [.vsl 0 1 (tI (lF 0 [])), vi (chkE nm l day)]) ⟨argNil, argVal, trivial⟩ ?_
    unfold NeedsS; rw [if_pos h1]; rfl
  · have h1 := Decidable.not_not.1 (of_decide_eq_false h1)
    have hv := chk_valid h1
    have cc := computed_c (lF dD l i.toNat)
    by_cases hin : i ∈ actL l day
    · have hb := actL_in i hin
      have hb2 : i.toNat < l.length := by omega
      rw [decide_eq_true hin] at cn
      have hnd : comp (lF dD l i.toNat) = true → BodyOk (lF dD l i.toNat) := fun hc => h.body hv hb2 hc
      cases hcm : comp (lF dD l i.toNat) with
      | true =>
        rw [hcm] at cc
        have hi0 : ((i.toNat : Nat) : Int) = i := by omega
        have cd := needs_c nm l (actL l day) i.toNat hb2 hl (by omega) actL_in (actN_asc l day _) (hnd hcm)
        rw [hi0] at cd
        repeat' (first | refine yo ?_ ?_ | refine yw ?_ ?_ | refine yk ?_ ?_ | exact trivial | with_reducible refine wA ?_ ?_ | refine ys ?_ ?_ | refine xs_done ?_ | refine yl ?_ ?_ | (refine pop_callc [] rfl rfl rfl rfl rfl rfl (fun _ h => by cases h) (ca) (args_cl _ rfl) ?_; rintro _ rfl) | (refine pop_callc [] rfl rfl rfl rfl rfl rfl (fun _ h => by cases h) (cd) (args_cl _ rfl) ?_; rintro _ rfl) | exact ⟨hb.1, hb.2⟩ | exact hb2 | refine z1 cn ?_ | refine z2 cn ?_ | refine z3 cn ?_ | refine z4 cn ?_ | refine z5 cn ?_ | refine z1 cc ?_ | refine z2 cc ?_ | refine z3 cc ?_ | refine z4 cc ?_ | refine z5 cc ?_ | refine w8 ?_ | refine w9 ?_ | refine w1 ?_ | refine w2 ?_ | refine w3 ?_ | refine w4 ?_ | refine w5 ?_ | refine w6 ?_ | refine w7 ?_ | refine yo0 ?_ ?_ | refine yw0 ?_ ?_ | exact qq | fail)
        refine kretv rfl ⟨trivial, trivial, trivial⟩ rfl ?_
        unfold NeedsS; rw [if_neg (by omega), if_pos ⟨hin, hcm⟩]; rfl
      | false =>
        rw [hcm] at cc
        repeat' (first | refine yo ?_ ?_ | refine yw ?_ ?_ | refine yk ?_ ?_ | exact trivial | with_reducible refine wA ?_ ?_ | refine ys ?_ ?_ | refine xs_done ?_ | refine yl ?_ ?_ | (refine pop_callc [] rfl rfl rfl rfl rfl rfl (fun _ h => by cases h) (ca) (args_cl _ rfl) ?_; rintro _ rfl) | exact ⟨hb.1, hb.2⟩ | exact hb2 | refine z1 cn ?_ | refine z2 cn ?_ | refine z3 cn ?_ | refine z4 cn ?_ | refine z5 cn ?_ | refine z1 cc ?_ | refine z2 cc ?_ | refine z3 cc ?_ | refine z4 cc ?_ | refine z5 cc ?_ | refine w8 ?_ | refine w9 ?_ | refine w1 ?_ | refine w2 ?_ | refine w3 ?_ | refine w4 ?_ | refine w5 ?_ | refine w6 ?_ | refine w7 ?_ | refine yo0 ?_ ?_ | refine yw0 ?_ ?_ | exact qq | fail)
        refine kret [] rfl ⟨trivial, trivial, trivial⟩ (qs := [.vsl 0 1 (tI (lF 0 [])), vi 16]) ⟨argNil, argVal, trivial⟩ ?_
        unfold NeedsS; rw [if_neg (by omega), if_neg (fun hh => by rw [hcm] at hh; cases hh.2)]; rfl
    · rw [decide_eq_false hin] at cn
      repeat' (first | refine yo ?_ ?_ | refine yw ?_ ?_ | refine yk ?_ ?_ | exact trivial | with_reducible refine wA ?_ ?_ | refine ys ?_ ?_ | refine xs_done ?_ | refine yl ?_ ?_ | (refine pop_callc [] rfl rfl rfl rfl rfl rfl (fun _ h => by cases h) (ca) (args_cl _ rfl) ?_; rintro _ rfl) | (refine pop_gfalse rfl rfl rfl rfl ?_) | exact (fun hh => by cases hh) | refine z1 cn ?_ | refine z2 cn ?_ | refine z3 cn ?_ | refine z4 cn ?_ | refine z5 cn ?_ | refine w8 ?_ | refine w9 ?_ | refine w1 ?_ | refine w2 ?_ | refine w3 ?_ | refine w4 ?_ | refine w5 ?_ | refine w6 ?_ | refine w7 ?_ | refine yo0 ?_ ?_ | refine yw0 ?_ ?_ | exact qq | fail)
      refine xdone ?_
      refine kret [] rfl ⟨trivial, trivial, trivial⟩ (qs := [.vsl 0 1 (tI (lF 0 [])), vi 16]) ⟨argNil, argVal, trivial⟩ ?_
      unfold NeedsS; rw [if_neg (by omega), if_neg (fun hh => hin hh.1)]; rfl
end Go.Proofs.Ytcefhgomkehokaa
namespace Go.Proofs.Ytcefhgomkehokaa
/-! ### the graph -/
def nodL (l : List Df) (act : List Int) : List Int := act.filter fun x => comp (lF dD l x.toNat)
def mapL (l : List Df) (act ns : List Int) : List (Int × List Int) := ns.map fun x => (x, (needS l act x.toNat).1)
def gErr (nm : ByteArray) (l : List Df) (day : Int) : Int :=
  if chkE nm l day ≠ 0 then chkE nm l day else if (nodL l (actL l day)).all (fun x => decide ((needS l (actL l day) x.toNat).2 = 0)) = true then 0 else 7
def cG (a b : PV) : Row := ⟨.own, true, 1, 2, fun _ => nthP [a, b]⟩
theorem cG_eq {τ : Nat → Option Nat} {a b : PV} {f : Nat → Nat → PV} (ha : PEq ((f 0 0).ren τ) a) (hb : PEq ((f 0 1).ren τ) b) : RowEq (Row.ren τ ⟨.own, true, 1, 2, f⟩) (cG a b) := ⟨rfl, rfl, Nat.le_refl _, fun i hi j hj => by
  have hi : i < 1 := hi
  have hj : j < 2 := hj
  obtain rfl : i = 0 := by omega
  obtain rfl | rfl : j = 0 ∨ j = 1 := by omega
  · exact ha
  · exact hb⟩
theorem needS_err {l : List Df} {act : List Int} {i : Nat} : (needS l act i).2 = 0 ∨ (needS l act i).2 = 7 := by
  unfold needS; split
  · exact .inl rfl
  · exact .inr rfl
theorem nodL_snoc {l : List Df} {A : List Int} {x : Int} : nodL l (A ++ [x]) = nodL l A ++ if comp (lF dD l x.toNat) = true then [x] else [] := by
  unfold nodL
  rw [List.filter_append]
  congr 1
  rw [List.filter_cons, List.filter_nil]
theorem mapL_snoc {l : List Df} {A ns : List Int} {x : Int} : mapL l A (ns ++ [x]) = mapL l A ns ++ [(x, (needS l A x.toNat).1)] := by
  unfold mapL; rw [List.map_append]; rfl
theorem gAll_no {l : List Df} {A : List Int} {x : Int} (hx : x ∈ A) (hc : comp (lF dD l x.toNat) = true) (hz : (needS l A x.toNat).2 ≠ 0) : ¬ (nodL l A).all (fun x => decide ((needS l A x.toNat).2 = 0)) = true := fun h =>
  hz (of_decide_eq_true (List.all_eq_true.1 h x (List.mem_filter.2 ⟨hx, hc⟩)))
theorem vm_g {l : Nat} {c a : PV} : ∀ i, i < 1 → ∀ j, j < 2 → VM l c ((cG a (.mref l)).f i j) ((cG a (.vmap c)).f i j) := fun i hi j hj => by
  obtain rfl | rfl : j = 0 ∨ j = 1 := by omega
  · exact VM.refl
  · exact VM.ref
set_option maxHeartbeats 8000000 in
theorem newGraph_r (nm : ByteArray) (l : List Df) (day : Int) (h : AgO nm l) (hl : l.length ≤ 1000000) : RowsC G.P 21 [] [vA nm l, vi day] (fun r rows => (gErr nm l day ≠ 0 ∧ r = .tup 2 (nthP [.agg 2 (nthP [.val (.slice none 0 0), .val (.map none)]), vi (gErr nm l day)]) ∧ rows = [cG (.val (.slice none 0 0)) (.val (.map none))]) ∨ (gErr nm l day = 0 ∧ ∃ k, (nodL l (actL l day)).length = k ∧ r = .tup 2 (nthP [.agg 2 (nthP [slP k 0, .vmap (cS (mapL l (actL l day) (nodL l (actL l day))))]), vi 0]) ∧ rows = [vRow c1 1 k (lF 0 (nodL l (actL l day))), cG (slP k 0) (.vmap (cS (mapL l (actL l day) (nodL l (actL l day)))))])) := by
  have ck := check_c nm l day h.nm h.bd
  have ca := active_c nm l day hl
  have hal := actL_len l day
  refine rows_of (G := G.toPg) (fn := Try.f21) Try.func21 rfl rfl rfl ?_; intro Γ hk
  repeat' (first | refine yo ?_ ?_ | refine yw ?_ ?_ | refine yk ?_ ?_ | exact trivial | with_reducible refine wA ?_ ?_ | refine ys ?_ ?_ | refine xs_done ?_ | refine yl ?_ ?_ | refine z1 ck ?_ | refine z2 ck ?_ | refine z3 ck ?_ | refine z4 ck ?_ | refine z5 ck ?_ | refine w8 ?_ | refine w9 ?_ | refine w1 ?_ | refine w2 ?_ | refine w3 ?_ | refine w4 ?_ | refine w5 ?_ | refine w6 ?_ | refine w7 ?_ | refine yo0 ?_ ?_ | refine yw0 ?_ ?_ | exact qq | fail)
  refine pcond (b := decide (chkE nm l day ≠ 0)) (eqB (by rw [Bool.eq_iff_iff]; simp)) ?_ ?_ <;> intro h1
  · have h1 := of_decide_eq_true h1
    have hE : gErr nm l day = chkE nm l day := by unfold gErr; rw [if_pos h1]
    rw [hE]
    repeat' (first | refine yo ?_ ?_ | refine yw ?_ ?_ | refine yk ?_ ?_ | exact trivial | with_reducible refine wA ?_ ?_ | refine ys ?_ ?_ | refine xs_done ?_ | refine yl ?_ ?_ | refine w8 ?_ | refine w9 ?_ | refine w1 ?_ | refine w2 ?_ | refine w3 ?_ | refine w4 ?_ | refine w5 ?_ | refine w6 ?_ | refine w7 ?_ | refine yo0 ?_ ?_ | refine yw0 ?_ ?_ | exact qq | fail)
    refine xdone ?_
    refine kretr (can_rowsv [1] (tm := [(4, .ptr 0 0 0), (5, vi (chkE nm l day))]) (rows := [cG (.val (.slice none 0 0)) (.val (.map none))]) (k0_sel hk rfl) rfl (.cons rfl (cG_eq (PEq.refl _) (PEq.refl _)) .nil) tmq) rfl ⟨Nat.zero_lt_one, trivial, trivial⟩ rfl (.inl ⟨h1, rfl, rfl⟩)
  · have h1 := Decidable.not_not.1 (of_decide_eq_false h1)
    have hv := chk_valid h1
    have hE : gErr nm l day = if (nodL l (actL l day)).all (fun x => decide ((needS l (actL l day) x.toNat).2 = 0)) = true then 0 else 7 := by unfold gErr; rw [if_neg (by omega)]
    rw [hE]
    clear hE
    have hin := actL_in (l := l) (day := day)
    have hasc : (actL l day).Pairwise (· < ·) := actN_asc l day _
    generalize hA : actL l day = A at *
    repeat' (first | refine yo ?_ ?_ | refine yw ?_ ?_ | refine yk ?_ ?_ | exact trivial | with_reducible refine wA ?_ ?_ | refine ys ?_ ?_ | refine xs_done ?_ | refine yl ?_ ?_ | refine w8 ?_ | refine w9 ?_ | refine w1 ?_ | refine w2 ?_ | refine w3 ?_ | refine w4 ?_ | refine w5 ?_ | refine w6 ?_ | refine w7 ?_ | refine yo0 ?_ ?_ | refine yw0 ?_ ?_ | exact qq | fail)
    refine pop_mkmapS rfl rfl rfl rfl rfl ?_
    repeat' (first | refine yo ?_ ?_ | refine yw ?_ ?_ | refine yk ?_ ?_ | exact trivial | with_reducible refine wA ?_ ?_ | refine ys ?_ ?_ | refine xs_done ?_ | refine yl ?_ ?_ | (refine pop_callc [] rfl rfl rfl rfl rfl rfl (fun _ h => by cases h) (ca) (args_cl _ rfl) ?_; rintro _ rfl) | refine w8 ?_ | refine w9 ?_ | refine w1 ?_ | refine w2 ?_ | refine w3 ?_ | refine w4 ?_ | refine w5 ?_ | refine w6 ?_ | refine w7 ?_ | refine yo0 ?_ ?_ | refine yw0 ?_ ?_ | exact qq | fail)
    refine pcan ((can_virt (vRow c1 1 0 (lF 0 [])) rfl).trans (can_rowsv [0, 1, 2, 3, 4] (tm := [(2, .ptr 0 0 0), (4, .ptr 1 0 0), (7, .ptr 3 0 0), (8, sV A), (25, sV A), (26, vi A.length), (27, vi ((0 : Nat) : Int))]) (rows := [rA1 nm l, cG (.val (.slice none 0 0)) (.val (.map none)), sRow (mapL l A (nodL l (A.take 0))), cG (slP 0 4) (.mref 2), vRow c1 1 0 (lF 0 (nodL l (A.take 0)))]) (k0_sel hk rfl) rfl (.cons rfl (RowEq.cl (rA1_cl _ _)) (.cons rfl (cG_eq (PEq.refl _) (PEq.refl _)) (.cons rfl (RowEq.cl (s_cl _)) (.cons rfl (cG_eq (PEq.refl _) (PEq.refl _)) (.cons rfl (RowEq.cl (v_cl c1_cl _ _ _)) .nil))))) tmq)) ?_
    refine ploop (fun q st => ∃ i k : Nat, i ≤ A.length ∧ (nodL l (A.take i)).length = k ∧ (nodL l (A.take i)).all (fun x => decide ((needS l A x.toNat).2 = 0)) = true ∧ q = A.length - i ∧ st = ⟨[(2, .ptr 0 0 0), (4, .ptr 1 0 0), (7, .ptr 3 0 0), (8, sV A), (25, sV A), (26, vi A.length), (27, vi i)], [rA1 nm l, cG (.val (.slice none 0 0)) (.val (.map none)), sRow (mapL l A (nodL l (A.take i))), cG (slP k 4) (.mref 2), vRow c1 1 k (lF 0 (nodL l (A.take i)))]⟩) A.length ⟨0, 0, Nat.zero_le _, by rw [List.take_zero]; rfl, by rw [List.take_zero]; rfl, rfl, rfl⟩ ?_
    rintro _ _ ⟨i, k, hiA, hk2, hall, rfl, rfl⟩
    have hw1 : IntKind.i64.wrap ((i : Int) + 1) = ((i + 1 : Nat) : Int) := w64 (by omega) (by omega)
    repeat' (first | refine yo ?_ ?_ | refine yw ?_ ?_ | refine yk ?_ ?_ | exact trivial | with_reducible refine wA ?_ ?_ | refine ys ?_ ?_ | refine xs_done ?_ | refine yl ?_ ?_ | refine w8 ?_ | refine w9 ?_ | refine w1 ?_ | refine w2 ?_ | refine w3 ?_ | refine w4 ?_ | refine w5 ?_ | refine w6 ?_ | refine w7 ?_ | refine yo0 ?_ ?_ | refine yw0 ?_ ?_ | exact qq | fail)
    refine pcond rfl ?_ ?_ <;> intro hc
    · have hc : i < A.length := by have := of_decide_eq_true hc; omega
      have hT : A.take (i + 1) = A.take i ++ [lF 0 A i] := by
        unfold lF
        rw [List.take_add_one, List.getD_eq_getElem?_getD, List.getElem?_eq_getElem (by omega)]; rfl
      have hxm : lF 0 A i ∈ A := by rw [lF_get' hc]; exact List.getElem_mem hc
      have hx := hin _ hxm
      have hx2 : (lF 0 A i).toNat < l.length := by omega
      have hx0 : (((lF 0 A i).toNat : Nat) : Int) = lF 0 A i := by omega
      have cc := computed_c (lF dD l (lF 0 A i).toNat)
      have hS := nodL_snoc (l := l) (A := A.take i) (x := lF 0 A i)
      rw [← hT] at hS
      cases hcm : comp (lF dD l (lF 0 A i).toNat) with
      | false =>
        rw [hcm] at cc
        rw [hcm, if_neg (by decide), List.append_nil] at hS
        rcases k with _ | k
        all_goals
          repeat' (first | refine yo ?_ ?_ | refine yw ?_ ?_ | refine yk ?_ ?_ | exact trivial | with_reducible refine wA ?_ ?_ | refine ys ?_ ?_ | refine xs_done ?_ | refine yl ?_ ?_ | exact ⟨hx.1, hx.2⟩ | exact hx2 | refine z1 cc ?_ | refine z2 cc ?_ | refine z3 cc ?_ | refine z4 cc ?_ | refine z5 cc ?_ | refine w8 ?_ | refine w9 ?_ | refine w1 ?_ | refine w2 ?_ | refine w3 ?_ | refine w4 ?_ | refine w5 ?_ | refine w6 ?_ | refine w7 ?_ | refine yo0 ?_ ?_ | refine yw0 ?_ ?_ | exact qq | fail)
          rw [hw1]
        · exact kloop_next (st' := ⟨[(2, .ptr 0 0 0), (4, .ptr 1 0 0), (7, .ptr 3 0 0), (8, sV A), (25, sV A), (26, vi A.length), (27, vi ((i + 1 : Nat) : Int))], [rA1 nm l, cG (.val (.slice none 0 0)) (.val (.map none)), sRow (mapL l A (nodL l (A.take i))), cG (slP 0 4) (.mref 2), vRow c1 1 0 (lF 0 (nodL l (A.take i)))]⟩) (A.length - (i + 1)) (can_rowsv [0, 1, 2, 3, 4] (k0_sel hk rfl) rfl (.cons rfl (RowEq.cl (rA1_cl _ _)) (.cons rfl (cG_eq (PEq.refl _) (PEq.refl _)) (.cons rfl (RowEq.cl (s_cl _)) (.cons rfl (cG_eq (PEq.refl _) (PEq.refl _)) (.cons rfl (RowEq.cl (v_cl c1_cl _ _ _)) .nil))))) tmq) (by omega) ⟨i + 1, 0, by omega, by rw [hS]; exact hk2, by rw [hS]; exact hall, rfl, by rw [hS]⟩
        · exact kloop_next (st' := ⟨[(2, .ptr 0 0 0), (4, .ptr 1 0 0), (7, .ptr 3 0 0), (8, sV A), (25, sV A), (26, vi A.length), (27, vi ((i + 1 : Nat) : Int))], [rA1 nm l, cG (.val (.slice none 0 0)) (.val (.map none)), sRow (mapL l A (nodL l (A.take i))), cG (slP (k + 1) 4) (.mref 2), vRow c1 1 (k + 1) (lF 0 (nodL l (A.take i)))]⟩) (A.length - (i + 1)) (can_rowsv [0, 1, 2, 3, 4] (k0_sel hk rfl) rfl (.cons rfl (RowEq.cl (rA1_cl _ _)) (.cons rfl (cG_eq (PEq.refl _) (PEq.refl _)) (.cons rfl (RowEq.cl (s_cl _)) (.cons rfl (cG_eq (PEq.refl _) (PEq.refl _)) (.cons rfl (RowEq.cl (v_cl c1_cl _ _ _)) .nil))))) tmq) (by omega) ⟨i + 1, k + 1, by omega, by rw [hS]; exact hk2, by rw [hS]; exact hall, rfl, by rw [hS]⟩
      | true =>
        rw [hcm] at cc
        rw [hcm, if_pos rfl] at hS
        have cd := needs_c nm l A (lF 0 A i).toNat hx2 hl (by omega) hin hasc (h.body hv hx2 hcm)
        rw [hx0] at cd
        have hkey : ∀ e, e ∈ mapL l A (nodL l (A.take i)) → e.1 ≠ lF 0 A i := fun e he => by
          obtain ⟨y, hy, rfl⟩ := List.mem_map.1 he
          have hy2 := (List.mem_filter.1 hy).1
          have h3 : (A.take (i + 1)).Pairwise (· < ·) := hasc.sublist (List.take_sublist _ _)
          rw [hT, List.pairwise_append] at h3
          have := h3.2.2 y hy2 (lF 0 A i) (List.mem_singleton.2 rfl)
          show y ≠ lF 0 A i
          omega
        have hkb : k ≤ i := by rw [← hk2]; exact Nat.le_trans (List.length_filter_le _ _) (by rw [List.length_take]; omega)
        rcases k with _ | k
        all_goals
          repeat' (first | refine yo ?_ ?_ | refine yw ?_ ?_ | refine yk ?_ ?_ | exact trivial | with_reducible refine wA ?_ ?_ | refine ys ?_ ?_ | refine xs_done ?_ | refine yl ?_ ?_ | (refine pop_callc [] rfl rfl rfl rfl rfl rfl (fun _ h => by cases h) (cd) (args_cl _ rfl) ?_; rintro _ rfl) | exact ⟨hx.1, hx.2⟩ | exact hx2 | refine z1 cc ?_ | refine z2 cc ?_ | refine z3 cc ?_ | refine z4 cc ?_ | refine z5 cc ?_ | refine w8 ?_ | refine w9 ?_ | refine w1 ?_ | refine w2 ?_ | refine w3 ?_ | refine w4 ?_ | refine w5 ?_ | refine w6 ?_ | refine w7 ?_ | refine yo0 ?_ ?_ | refine yw0 ?_ ?_ | exact qq | fail)
          refine pcond (b := decide ((needS l A (lF 0 A i).toNat).2 ≠ 0)) (eqB (by rw [Bool.eq_iff_iff]; simp)) ?_ ?_ <;> intro hz
        · have hz := of_decide_eq_true hz
          have hz7 : (needS l A (lF 0 A i).toNat).2 = 7 := by rcases needS_err (l := l) (act := A) (i := (lF 0 A i).toNat) with e | e; exact absurd e hz; exact e
          have hna := gAll_no hxm hcm hz
          repeat' (first | refine yo ?_ ?_ | refine yw ?_ ?_ | refine yk ?_ ?_ | exact trivial | with_reducible refine wA ?_ ?_ | refine ys ?_ ?_ | refine xs_done ?_ | refine yl ?_ ?_ | refine w8 ?_ | refine w9 ?_ | refine w1 ?_ | refine w2 ?_ | refine w3 ?_ | refine w4 ?_ | refine w5 ?_ | refine w6 ?_ | refine w7 ?_ | refine yo0 ?_ ?_ | refine yw0 ?_ ?_ | exact qq | fail)
          refine xdone ?_
          refine kretr (can_rowsv [1] (tm := [(4, .ptr 0 0 0), (5, vi (needS l A (lF 0 A i).toNat).2)]) (rows := [cG (.val (.slice none 0 0)) (.val (.map none))]) (k0_sel hk rfl) rfl (.cons rfl (cG_eq (PEq.refl _) (PEq.refl _)) .nil) tmq) rfl ⟨Nat.zero_lt_one, trivial, trivial⟩ rfl (.inl ⟨by rw [if_neg hna]; decide, by rw [if_neg hna, hz7]; rfl, rfl⟩)
        · have hz := Decidable.not_not.1 (of_decide_eq_false hz)
          repeat' (first | refine yo ?_ ?_ | refine yw ?_ ?_ | refine yk ?_ ?_ | exact trivial | with_reducible refine wA ?_ ?_ | refine ys ?_ ?_ | refine xs_done ?_ | refine yl ?_ ?_ | exact ⟨Nat.le_refl _, (by rw [hk]; exact Nat.le_of_ble_eq_true rfl), Nat.le_of_eq (Nat.zero_add _), (show (_ : Nat) * 8 ≤ 140737488355328 from by omega), (show (_ : Nat) ≤ 9223372036854775807 from by omega)⟩ | refine w8 ?_ | refine w9 ?_ | refine w1 ?_ | refine w2 ?_ | refine w3 ?_ | refine w4 ?_ | refine w5 ?_ | refine w6 ?_ | refine w7 ?_ | refine yo0 ?_ ?_ | refine yw0 ?_ ?_ | exact qq | fail)
          refine pop_msetS (l := 2) mapIS (lF 0 A i) (needS l A (lF 0 A i).toNat).1 hkey rfl rfl rfl rfl rfl rfl rfl (by rw [hk]; exact Nat.zero_le _) rfl rfl ?_
          repeat' (first | refine yo ?_ ?_ | refine yw ?_ ?_ | refine yk ?_ ?_ | exact trivial | with_reducible refine wA ?_ ?_ | refine ys ?_ ?_ | refine xs_done ?_ | refine yl ?_ ?_ | refine w8 ?_ | refine w9 ?_ | refine w1 ?_ | refine w2 ?_ | refine w3 ?_ | refine w4 ?_ | refine w5 ?_ | refine w6 ?_ | refine w7 ?_ | refine yo0 ?_ ?_ | refine yw0 ?_ ?_ | exact qq | fail)
          rw [hw1]
          exact kloop_next (st' := ⟨[(2, .ptr 0 0 0), (4, .ptr 1 0 0), (7, .ptr 3 0 0), (8, sV A), (25, sV A), (26, vi A.length), (27, vi ((i + 1 : Nat) : Int))], [rA1 nm l, cG (.val (.slice none 0 0)) (.val (.map none)), sRow (mapL l A (nodL l (A.take i) ++ [lF 0 A i])), cG (slP (0 + 1) 4) (.mref 2), vRow c1 1 (0 + 1) (lF 0 (nodL l (A.take i) ++ [lF 0 A i]))]⟩) (A.length - (i + 1)) (can_rowsv [0, 1, 2, 3, 6] (k0_sel hk rfl) rfl (.cons rfl (RowEq.cl (rA1_cl _ _)) (.cons rfl (cG_eq (PEq.refl _) (PEq.refl _)) (.cons rfl (by rw [mapL_snoc]; exact RowEq.cl (s_cl _)) (.cons rfl (cG_eq (PEq.refl _) (PEq.refl _)) (.cons rfl (app_l0 c1_cl hk2 rfl) .nil))))) tmq) (by omega) ⟨i + 1, 0 + 1, by omega, by rw [hS, List.length_append, hk2]; rfl, by rw [hS, List.all_append, hall]; simp [hz], rfl, by rw [hS]⟩
        · have hz := of_decide_eq_true hz
          have hz7 : (needS l A (lF 0 A i).toNat).2 = 7 := by rcases needS_err (l := l) (act := A) (i := (lF 0 A i).toNat) with e | e; exact absurd e hz; exact e
          have hna := gAll_no hxm hcm hz
          repeat' (first | refine yo ?_ ?_ | refine yw ?_ ?_ | refine yk ?_ ?_ | exact trivial | with_reducible refine wA ?_ ?_ | refine ys ?_ ?_ | refine xs_done ?_ | refine yl ?_ ?_ | refine w8 ?_ | refine w9 ?_ | refine w1 ?_ | refine w2 ?_ | refine w3 ?_ | refine w4 ?_ | refine w5 ?_ | refine w6 ?_ | refine w7 ?_ | refine yo0 ?_ ?_ | refine yw0 ?_ ?_ | exact qq | fail)
          refine xdone ?_
          refine kretr (can_rowsv [1] (tm := [(4, .ptr 0 0 0), (5, vi (needS l A (lF 0 A i).toNat).2)]) (rows := [cG (.val (.slice none 0 0)) (.val (.map none))]) (k0_sel hk rfl) rfl (.cons rfl (cG_eq (PEq.refl _) (PEq.refl _)) .nil) tmq) rfl ⟨Nat.zero_lt_one, trivial, trivial⟩ rfl (.inl ⟨by rw [if_neg hna]; decide, by rw [if_neg hna, hz7]; rfl, rfl⟩)
        · have hz := Decidable.not_not.1 (of_decide_eq_false hz)
          repeat' (first | refine yo ?_ ?_ | refine yw ?_ ?_ | refine yk ?_ ?_ | exact trivial | with_reducible refine wA ?_ ?_ | refine ys ?_ ?_ | refine xs_done ?_ | refine yl ?_ ?_ | exact ⟨Nat.le_refl _, (by rw [hk]; exact Nat.le_of_ble_eq_true rfl), Nat.le_of_eq (Nat.zero_add _), (show (_ : Nat) * 8 ≤ 140737488355328 from by omega), (show (_ : Nat) ≤ 9223372036854775807 from by omega)⟩ | refine w8 ?_ | refine w9 ?_ | refine w1 ?_ | refine w2 ?_ | refine w3 ?_ | refine w4 ?_ | refine w5 ?_ | refine w6 ?_ | refine w7 ?_ | refine yo0 ?_ ?_ | refine yw0 ?_ ?_ | exact qq | fail)
          refine pop_msetS (l := 2) mapIS (lF 0 A i) (needS l A (lF 0 A i).toNat).1 hkey rfl rfl rfl rfl rfl rfl rfl (by rw [hk]; exact Nat.zero_le _) rfl rfl ?_
          repeat' (first | refine yo ?_ ?_ | refine yw ?_ ?_ | refine yk ?_ ?_ | exact trivial | with_reducible refine wA ?_ ?_ | refine ys ?_ ?_ | refine xs_done ?_ | refine yl ?_ ?_ | refine w8 ?_ | refine w9 ?_ | refine w1 ?_ | refine w2 ?_ | refine w3 ?_ | refine w4 ?_ | refine w5 ?_ | refine w6 ?_ | refine w7 ?_ | refine yo0 ?_ ?_ | refine yw0 ?_ ?_ | exact qq | fail)
          rw [hw1]
          exact kloop_next (st' := ⟨[(2, .ptr 0 0 0), (4, .ptr 1 0 0), (7, .ptr 3 0 0), (8, sV A), (25, sV A), (26, vi A.length), (27, vi ((i + 1 : Nat) : Int))], [rA1 nm l, cG (.val (.slice none 0 0)) (.val (.map none)), sRow (mapL l A (nodL l (A.take i) ++ [lF 0 A i])), cG (slP (k + 1 + 1) 4) (.mref 2), vRow c1 1 (k + 1 + 1) (lF 0 (nodL l (A.take i) ++ [lF 0 A i]))]⟩) (A.length - (i + 1)) (can_rowsv [0, 1, 2, 3, 6] (k0_sel hk rfl) rfl (.cons rfl (RowEq.cl (rA1_cl _ _)) (.cons rfl (cG_eq (PEq.refl _) (PEq.refl _)) (.cons rfl (by rw [mapL_snoc]; exact RowEq.cl (s_cl _)) (.cons rfl (cG_eq (PEq.refl _) (PEq.refl _)) (.cons rfl (app_l c1_cl hk2 rfl rfl) .nil))))) tmq) (by omega) ⟨i + 1, k + 1 + 1, by omega, by rw [hS, List.length_append, hk2]; rfl, by rw [hS, List.all_append, hall]; simp [hz], rfl, by rw [hS]⟩
    · have hil : i = A.length := by have := of_decide_eq_false hc; omega
      subst hil
      rw [List.take_length] at hk2 hall
      rw [List.take_length]
      rw [if_pos hall]
      rcases k with _ | k
      · repeat' (first | refine yo ?_ ?_ | refine yw ?_ ?_ | refine yk ?_ ?_ | exact trivial | with_reducible refine wA ?_ ?_ | refine ys ?_ ?_ | refine xs_done ?_ | refine yl ?_ ?_ | refine w8 ?_ | refine w9 ?_ | refine w1 ?_ | refine w2 ?_ | refine w3 ?_ | refine w4 ?_ | refine w5 ?_ | refine w6 ?_ | refine w7 ?_ | refine yo0 ?_ ?_ | refine yw0 ?_ ?_ | exact qq | fail)
        refine xdone ?_
        refine kretr ((can_vmap (one := false) (n := 0) (f := fun _ _ => cS (mapL l A (nodL l A))) 2 (by rw [hk]; exact Nat.zero_le _) rfl (cS_cl _) (tm := [(4, .ptr 1 0 0), (5, vi 0)]) (rows := [rA1 nm l, cG (slP (0) 4) (.vmap (cS (mapL l A (nodL l A)))), deadR, cG (slP (0) 4) (.mref 2), vRow c1 1 (0) (lF 0 (nodL l A))]) (by exact ⟨VM.refl, VM.refl, trivial⟩) (by exact ⟨.inl rfl, .inr ⟨trivial, rfl, rfl, rfl, vm_g⟩, .inl rfl, .inl rfl, .inl rfl, trivial⟩)).trans (can_rowsv [4, 1] (tm := [(4, .ptr 1 0 0), (5, vi 0)]) (rows := [vRow c1 1 (0) (lF 0 (nodL l A)), cG (slP (0) 0) (.vmap (cS (mapL l A (nodL l A))))]) (k0_sel hk rfl) rfl (.cons rfl (RowEq.cl (v_cl c1_cl _ _ _)) (.cons rfl (cG_eq (PEq.refl _) (PEq.cl (.vmap _) trivial)) .nil)) tmq)) rfl ⟨Nat.zero_lt_one, trivial, trivial⟩ rfl (.inr ⟨rfl, 0, hk2, rfl, rfl⟩)
      · repeat' (first | refine yo ?_ ?_ | refine yw ?_ ?_ | refine yk ?_ ?_ | exact trivial | with_reducible refine wA ?_ ?_ | refine ys ?_ ?_ | refine xs_done ?_ | refine yl ?_ ?_ | refine w8 ?_ | refine w9 ?_ | refine w1 ?_ | refine w2 ?_ | refine w3 ?_ | refine w4 ?_ | refine w5 ?_ | refine w6 ?_ | refine w7 ?_ | refine yo0 ?_ ?_ | refine yw0 ?_ ?_ | exact qq | fail)
        refine xdone ?_
        refine kretr ((can_vmap (one := false) (n := 0) (f := fun _ _ => cS (mapL l A (nodL l A))) 2 (by rw [hk]; exact Nat.zero_le _) rfl (cS_cl _) (tm := [(4, .ptr 1 0 0), (5, vi 0)]) (rows := [rA1 nm l, cG (slP (k + 1) 4) (.vmap (cS (mapL l A (nodL l A)))), deadR, cG (slP (k + 1) 4) (.mref 2), vRow c1 1 (k + 1) (lF 0 (nodL l A))]) (by exact ⟨VM.refl, VM.refl, trivial⟩) (by exact ⟨.inl rfl, .inr ⟨trivial, rfl, rfl, rfl, vm_g⟩, .inl rfl, .inl rfl, .inl rfl, trivial⟩)).trans (can_rowsv [4, 1] (tm := [(4, .ptr 1 0 0), (5, vi 0)]) (rows := [vRow c1 1 (k + 1) (lF 0 (nodL l A)), cG (slP (k + 1) 0) (.vmap (cS (mapL l A (nodL l A))))]) (k0_sel hk rfl) rfl (.cons rfl (RowEq.cl (v_cl c1_cl _ _ _)) (.cons rfl (cG_eq (PEq.refl _) (PEq.cl (.vmap _) trivial)) .nil)) tmq)) rfl ⟨Nat.zero_lt_one, trivial, trivial⟩ rfl (.inr ⟨rfl, k + 1, hk2, rfl, rfl⟩)
end Go.Proofs.Ytcefhgomkehokaa
namespace Go.Proofs.Ytcefhgomkehokaa
abbrev tH : Ty := ⟨false, 0, 1, 0⟩
abbrev tR : Ty := ⟨false, 1, -1, 0⟩
abbrev n_h : ByteArray := ⟨#[104]⟩
abbrev n_g : ByteArray := ⟨#[103]⟩
abbrev n_f : ByteArray := ⟨#[102]⟩
abbrev n_r1 : ByteArray := ⟨#[114, 49]⟩
abbrev n_r2 : ByteArray := ⟨#[114, 50]⟩
abbrev n_r3 : ByteArray := ⟨#[114, 51]⟩
abbrev n_r4 : ByteArray := ⟨#[114, 52]⟩
abbrev n_a : ByteArray := ⟨#[97]⟩
abbrev n_b : ByteArray := ⟨#[98]⟩
abbrev n_w : ByteArray := ⟨#[119]⟩
abbrev n_s : ByteArray := ⟨#[115]⟩
abbrev n_gross : ByteArray := ⟨#[103, 114, 111, 115, 115]⟩
abbrev n_time : ByteArray := ⟨#[116, 105, 109, 101]⟩
structure Env (N S P : List Df) : Prop where
  h : findS N n_h = (tH, 0)
  g : findS N n_g = (t0, 0)
  f : findS N n_f = (tB, 0)
  r1 : findS N n_r1 = (tR, 0)
  r2 : findS N n_r2 = (tM, 0)
  r3 : findS N n_r3 = (tB, 0)
  r4 : findS N n_r4 = (t0, 0)
  a : findS N n_a = (tM, 0)
  w : findS S n_w = (tR, 0)
  s : findS S n_s = (t0, 0)
  gross : findS P n_gross = (tM, 0)
  time : findS P n_time = (tH, 0)
def decL : List (Int × Int) := [(1, 1), (2, 1), (0, 1), (5, 2), (1, 4), (76, 5), (40, 1), (1, 100), (3, 1), (100, 1)]
inductive Lit : Ex → Prop where
  | mk {op vn vd um uh ud : Int} {nm : ByteArray} {cnt mode : Int} {nk : Nat} {kf : Nat → Ex} (h : op = 1 ∨ op = 19 → (vn, vd) ∈ decL) (hk : ∀ i, i < nk → Lit (kf i)) : Lit (.mk op vn vd um uh ud nm cnt mode nk kf)
def nms3 : List ByteArray := [n_h, n_g, n_f, n_r1, n_r2, n_r3, n_r4, n_a]
def rank (nm : ByteArray) : Int := if nm.toList = n_r1.toList then 1 else if nm.toList = n_r2.toList then 2 else if nm.toList = n_r3.toList then 3 else if nm.toList = n_r4.toList then 4 else if nm.toList = n_a.toList then 4 else if nm.toList = n_b.toList then 5 else 0
def RkN (ρ op : Int) (nm : ByteArray) : Prop := (op = 3 → nm ∈ nms3 ∧ (rank nm = 0 ∨ rank nm < ρ)) ∧ (op = 4 → nm = n_w ∨ nm = n_s)
inductive Rk (ρ : Int) : Ex → Prop where
  | mk {op vn vd um uh ud : Int} {nm : ByteArray} {cnt mode : Int} {nk : Nat} {kf : Nat → Ex} (h : RkN ρ op nm) (hk : ∀ i, i < nk → Rk ρ (kf i)) : Rk ρ (.mk op vn vd um uh ud nm cnt mode nk kf)
theorem RkN.no {ρ op : Int} {nm : ByteArray} (h3 : op ≠ 3) (h4 : op ≠ 4) : RkN ρ op nm := ⟨fun h => absurd h h3, fun h => absurd h h4⟩
theorem RkN.mono {ρ ρ' op : Int} {nm : ByteArray} (h : RkN ρ op nm) (hr : ρ ≤ ρ') : RkN ρ' op nm := ⟨fun e => ⟨(h.1 e).1, (h.1 e).2.imp id fun h => by omega⟩, h.2⟩
theorem Rk.mono {ρ ρ' : Int} (hr : ρ ≤ ρ') {e : Ex} (h : Rk ρ e) : Rk ρ' e := by
  induction h with
  | mk h hk ih => exact .mk (h.mono hr) ih
theorem RkN.nm {ρ : Int} {nm : ByteArray} {k : Int} (hm : nm ∈ nms3) (hr : rank nm = k) (hk : k = 0 ∨ k < ρ) : RkN ρ 3 nm := ⟨fun _ => ⟨hm, by rw [hr]; exact hk⟩, fun h => absurd h (by decide)⟩
theorem mm3 {P : Prop} (h : P := by unfold nms3; repeat' (first | exact List.Mem.head _ | refine List.Mem.tail _ ?_)) : P := h
theorem rk_h {ρ : Int} : RkN ρ 3 n_h := .nm (k := 0) mm3 (by decide +kernel) (.inl rfl)
theorem rk_g {ρ : Int} : RkN ρ 3 n_g := .nm (k := 0) mm3 (by decide +kernel) (.inl rfl)
theorem rk_f {ρ : Int} : RkN ρ 3 n_f := .nm (k := 0) mm3 (by decide +kernel) (.inl rfl)
theorem rk_r1 {ρ : Int} (h : decide (1 < ρ) = true) : RkN ρ 3 n_r1 := .nm (k := 1) mm3 (by decide +kernel) (.inr (of_decide_eq_true h))
theorem rk_r2 {ρ : Int} (h : decide (2 < ρ) = true) : RkN ρ 3 n_r2 := .nm (k := 2) mm3 (by decide +kernel) (.inr (of_decide_eq_true h))
theorem rk_r3 {ρ : Int} (h : decide (3 < ρ) = true) : RkN ρ 3 n_r3 := .nm (k := 3) mm3 (by decide +kernel) (.inr (of_decide_eq_true h))
theorem rk_r4 {ρ : Int} (h : decide (4 < ρ) = true) : RkN ρ 3 n_r4 := .nm (k := 4) mm3 (by decide +kernel) (.inr (of_decide_eq_true h))
theorem rk_a {ρ : Int} (h : decide (4 < ρ) = true) : RkN ρ 3 n_a := .nm (k := 4) mm3 (by decide +kernel) (.inr (of_decide_eq_true h))
structure EOk (ρ : Int) (h : Nat) (t : Ty) (e : Ex) : Prop where
  bd : Bd e
  vl : ∀ n, h ≤ n → validS n e = true
  wt : ∀ N S P, Env N S P → ∀ n, h ≤ n → typeS N S P n e = (t, 0)
  lit : Lit e
  rk : Rk ρ e
theorem EOk.mono {ρ : Int} {h h' : Nat} {t : Ty} {e : Ex} (H : EOk ρ h t e) (hh : h ≤ h') : EOk ρ h' t e := ⟨H.bd, fun n hn => H.vl n (by omega), fun N S P hE n hn => H.wt N S P hE n (by omega), H.lit, H.rk⟩
theorem EOk.up {ρ ρ' : Int} {h : Nat} {t : Ty} {e : Ex} (H : EOk ρ h t e) (hr : ρ ≤ ρ') : EOk ρ' h t e := ⟨H.bd, H.vl, H.wt, H.lit, H.rk.mono hr⟩
theorem EOk.node {ρ : Int} {h : Nat} {t : Ty} {op vn vd um uh ud : Int} {nm : ByteArray} {cnt mode : Int} {nk : Nat} {kf : Nat → Ex} (τ : Nat → Ty) (hb : -9223372036854775808 ≤ vn ∧ vn ≤ 9223372036854775807 ∧ nm.size ≤ 9223372036854775807) (hk : (nk : Int) = kidsN op) (hf : fieldS (.mk op vn vd um uh ud nm cnt mode nk kf) = true) (hkid : ∀ i, i < nk → EOk ρ h (τ i) (kf i))
    (ho : ∀ N S P, Env N S P → opS N S P (.mk op vn vd um uh ud nm cnt mode nk kf) (if 0 < nk then τ 0 else t0) (if 1 < nk then τ 1 else t0) (if 2 < nk then τ 2 else t0) = (t, 0)) (hl : op = 1 ∨ op = 19 → (vn, vd) ∈ decL) (hr : RkN ρ op nm) : EOk ρ (h + 1) t (.mk op vn vd um uh ud nm cnt mode nk kf) := by
  refine ⟨.mk hb fun i hi => (hkid i hi).bd, fun n hn => ?_, fun N S P hE n hn => ?_, .mk hl fun i hi => (hkid i hi).lit, .mk hr fun i hi => (hkid i hi).rk⟩
  · obtain ⟨m, rfl⟩ : ∃ m, n = m + 1 := ⟨n - 1, by omega⟩
    have e1 : decide (((nk : Nat) : Int) = kidsN op) = true := decide_eq_true hk
    show (decide (((nk : Nat) : Int) = kidsN op) && (fieldS _ && allK nk (fun i => validS m (kf i)))) = true
    rw [e1, hf, allK_iff.2 fun i hi => (hkid i hi).vl m (by omega)]; rfl
  · obtain ⟨m, rfl⟩ : ∃ m, n = m + 1 := ⟨n - 1, by omega⟩
    have hT : ∀ i, typeS N S P m ((Ex.mk op vn vd um uh ud nm cnt mode nk kf).kf i) = (fun i => typeS N S P m (kf i)) i := fun _ => rfl
    have h3 : nk ≤ 3 := by have := kidsN_le op; omega
    obtain ⟨_, h2⟩ := typeS_succ N S P m _ hT h3
    have hz : ∀ j, j < nk → typeS N S P m (kf j) = (τ j, 0) := fun j hj => (hkid j hj).wt N S P hE m (by omega)
    rw [h2 (fun j hj => by show (typeS N S P m (kf j)).2 = 0; rw [hz j hj])]
    have hkt : ∀ j, kt (fun i => typeS N S P m (kf i)) nk j = if j < nk then τ j else t0 := fun j => by
      unfold kt
      by_cases hj : j < nk
      · rw [if_pos hj, if_pos hj]; show (typeS N S P m (kf j)).1 = _; rw [hz j hj]
      · rw [if_neg hj, if_neg hj]
    show opS N S P _ (kt _ nk 0) (kt _ nk 1) (kt _ nk 2) = _
    rw [hkt, hkt, hkt]
    exact ho N S P hE
def k1 (a : Ex) (_ : Nat) : Ex := a
def k2 (a b : Ex) (i : Nat) : Ex := if i = 0 then a else b
def k3 (a b c : Ex) (i : Nat) : Ex := if i = 0 then a else if i = 1 then b else c
def kn (_ : Nat) : Ex := .nil
abbrev eOp (op : Int) (nk : Nat) (kf : Nat → Ex) : Ex := .mk op 0 0 0 0 0 ⟨#[]⟩ 0 0 nk kf
abbrev eNm (op : Int) (nm : ByteArray) (nk : Nat) (kf : Nat → Ex) : Ex := .mk op 0 0 0 0 0 nm 0 0 nk kf
theorem ok_name {ρ : Int} {nm : ByteArray} {t : Ty} (h1 : nameS nm = true) (h2 : nm.size ≤ 100) (h3 : ∀ N S P, Env N S P → findS N nm = (t, 0)) (hr : RkN ρ 3 nm) : EOk ρ 1 t (eNm 3 nm 0 kn) :=
  EOk.node (h := 0) (fun _ => t0) ⟨by show (-9223372036854775808 : Int) ≤ 0; decide, by show (0 : Int) ≤ 9223372036854775807; decide, by omega⟩ rfl (by simp [fieldS, Ex.op, Ex.vn, Ex.vd, Ex.um, Ex.uh, Ex.ud, Ex.nm, Ex.cnt, Ex.mode, h1]) (fun i hi => by omega) (fun N S P hE => by show findS N nm = _; exact h3 N S P hE) (by omega) hr
theorem ok_past {ρ op : Int} {nm : ByteArray} {t : Ty} {c : Int} (hop : op = 20 ∨ op = 21) (h1 : nameS nm = true) (h2 : nm.size ≤ 100) (hc : 1 ≤ c ∧ c ≤ 120) (h3 : ∀ N S P, Env N S P → findS P nm = (t, 0)) : EOk ρ 1 t (.mk op 0 0 0 0 0 nm c 0 0 kn) := by
  refine EOk.node (h := 0) (fun _ => t0) ⟨by decide, by decide, by omega⟩ ?_ ?_ (fun i hi => by omega) (fun N S P hE => ?_) (by omega) (.no (by omega) (by omega))
  · rcases hop with rfl | rfl <;> rfl
  · rcases hop with rfl | rfl <;> simp [fieldS, Ex.op, Ex.vn, Ex.vd, Ex.um, Ex.uh, Ex.ud, Ex.nm, Ex.cnt, Ex.mode, h1, hc]
  · rcases hop with rfl | rfl <;> exact h3 N S P hE
theorem ok_truth {ρ c : Int} (hc : c = 0 ∨ c = 1) : EOk ρ 1 tB (.mk 2 0 0 0 0 0 ⟨#[]⟩ c 0 0 kn) := by
  refine EOk.node (h := 0) (fun _ => t0) ⟨by decide, by decide, by decide⟩ rfl ?_ (fun i hi => by omega) (fun N S P hE => rfl) (by omega) (.no (by decide) (by decide))
  rcases hc with rfl | rfl <;> simp [fieldS, Ex.op, Ex.vn, Ex.vd, Ex.um, Ex.uh, Ex.ud, Ex.nm, Ex.cnt, Ex.mode] <;> rfl
theorem ok_num {ρ : Int} {x : Int × Int} {m h d : Int} (hx : x ∈ decL) (hu : unitS m h d = true) : EOk ρ 1 ⟨false, m, h, d⟩ (.mk 1 x.1 x.2 m h d ⟨#[]⟩ 0 0 0 kn) := by
  have key : ∀ x ∈ decL, -9223372036854775808 ≤ x.1 ∧ x.1 ≤ 9223372036854775807 ∧ decS x.1 x.2 = true := by decide +kernel
  obtain ⟨k1, k2, k3⟩ := key x hx
  refine EOk.node (h := 0) (fun _ => t0) ⟨k1, k2, by decide⟩ rfl ?_ (fun i hi => by omega) (fun N S P hE => rfl) (fun _ => hx) (.no (by decide) (by decide))
  simp [fieldS, Ex.op, Ex.vn, Ex.vd, Ex.um, Ex.uh, Ex.ud, Ex.nm, Ex.cnt, Ex.mode, k3, hu]
theorem ok_op {ρ : Int} {h : Nat} {t : Ty} {op : Int} {nk : Nat} {kf : Nat → Ex} (τ : Nat → Ty) (hop : 5 ≤ op ∧ op ≤ 18) (hk : (nk : Int) = kidsN op) (hkid : ∀ i, i < nk → EOk ρ h (τ i) (kf i))
    (ho : ∀ N S P, opS N S P (eOp op nk kf) (if 0 < nk then τ 0 else t0) (if 1 < nk then τ 1 else t0) (if 2 < nk then τ 2 else t0) = (t, 0)) : EOk ρ (h + 1) t (eOp op nk kf) := by
  refine EOk.node τ ⟨by decide, by decide, by decide⟩ hk ?_ hkid (fun N S P _ => ho N S P) (by omega) (.no (by omega) (by omega))
  have e1 : ¬ op = 1 := by omega
  have e2 : ¬ op = 2 := by omega
  have e3 : ¬ op = 3 := by omega
  have e4 : ¬ op = 4 := by omega
  have e5 : ¬ op = 19 := by omega
  have e6 : ¬ op = 20 := by omega
  have e7 : ¬ op = 21 := by omega
  simp [fieldS, Ex.op, Ex.vn, Ex.vd, Ex.um, Ex.uh, Ex.ud, Ex.nm, Ex.cnt, Ex.mode, e1, e2, e3, e4, e5, e6, e7]
theorem ok_two {ρ : Int} {h : Nat} {t ta tb : Ty} {op : Int} {a b : Ex} (hop : 5 ≤ op ∧ op ≤ 15) (ha : EOk ρ h ta a) (hb : EOk ρ h tb b) (ho : ∀ N S P, opS N S P (eOp op 2 (k2 a b)) ta tb t0 = (t, 0)) : EOk ρ (h + 1) t (eOp op 2 (k2 a b)) := by
  refine ok_op (fun i => if i = 0 then ta else tb) ⟨hop.1, by omega⟩ ?_ (fun i hi => ?_) ho
  · unfold kidsN; rw [if_neg (by omega), if_neg (by omega), if_pos hop]; rfl
  · rcases (by omega : i = 0 ∨ i = 1) with rfl | rfl
    · exact ha
    · exact hb
theorem ok_one {ρ : Int} {h : Nat} {t ta : Ty} {op : Int} {a : Ex} (hop : op = 16 ∨ op = 17) (ha : EOk ρ h ta a) (ho : ∀ N S P, opS N S P (eOp op 1 (k1 a)) ta t0 t0 = (t, 0)) : EOk ρ (h + 1) t (eOp op 1 (k1 a)) := by
  refine ok_op (fun _ => ta) ⟨by omega, by omega⟩ ?_ (fun i hi => ha) ho
  rcases hop with rfl | rfl <;> rfl
theorem ok_if {ρ : Int} {h : Nat} {t : Ty} {a b c : Ex} (ha : EOk ρ h tB a) (hb : EOk ρ h t b) (hc : EOk ρ h t c) : EOk ρ (h + 1) t (eOp 18 3 (k3 a b c)) := by
  refine ok_op (fun i => if i = 0 then tB else t) ⟨by decide, by decide⟩ rfl (fun i hi => ?_) (fun N S P => ?_)
  · rcases (by omega : i = 0 ∨ i = 1 ∨ i = 2) with rfl | rfl | rfl
    · exact ha
    · exact hb
    · exact hc
  · obtain ⟨tb, tm, th, td⟩ := t
    cases tb <;> simp [opS, Ex.op, resS, equS]
theorem ok_scale {ρ : Int} {h : Nat} {t : Ty} {nm : ByteArray} {a : Ex} (h1 : nameS nm = true) (h2 : nm.size ≤ 100) (ha : EOk ρ h t0 a) (h3 : ∀ N S P, Env N S P → findS S nm = (t, 0)) (hw : nm = n_w ∨ nm = n_s) : EOk ρ (h + 1) t (eNm 4 nm 1 (k1 a)) := by
  refine EOk.node (fun _ => t0) ⟨by decide, by decide, by omega⟩ rfl ?_ (fun i hi => ha) (fun N S P hE => ?_) (by omega) ⟨fun h => absurd h (by decide), fun _ => hw⟩
  · simp [fieldS, Ex.op, Ex.vn, Ex.vd, Ex.um, Ex.uh, Ex.ud, Ex.nm, Ex.cnt, Ex.mode, h1]
  · have := h3 N S P hE
    simp [opS, Ex.op, Ex.nm, this, resS, equS]
theorem key0 : ∀ x ∈ [((1 : Int), (1 : Int)), (1, 100), (1, 4)], x ∈ decL := by decide +kernel
theorem ok_round {ρ : Int} {h : Nat} {t : Ty} {x : Int × Int} {mode : Int} {a : Ex} (hx : x ∈ [((1 : Int), (1 : Int)), (1, 100), (1, 4)]) (hm : 0 ≤ mode ∧ mode ≤ 6) (ht : t.b = false) (hu : unitS t.m t.h t.d = true) (ha : EOk ρ h t a) : EOk ρ (h + 1) t (.mk 19 x.1 x.2 t.m t.h t.d ⟨#[]⟩ 0 mode 1 (k1 a)) := by
  have key : ∀ x ∈ [((1 : Int), (1 : Int)), (1, 100), (1, 4)], -9223372036854775808 ≤ x.1 ∧ x.1 ≤ 9223372036854775807 ∧ decS x.1 x.2 = true ∧ 0 < x.1 := by decide +kernel
  obtain ⟨k1', k2', k3', k4'⟩ := key x hx
  refine EOk.node (fun _ => t) ⟨k1', k2', by decide⟩ rfl ?_ (fun i hi => ha) (fun N S P hE => ?_) (fun _ => key0 _ hx) (.no (by decide) (by decide))
  · have : modeB mode = true := by simp [modeB]; omega
    simp [fieldS, Ex.op, Ex.vn, Ex.vd, Ex.um, Ex.uh, Ex.ud, Ex.nm, Ex.cnt, Ex.mode, k3', k4', hu, this]
  · obtain ⟨tb, tm, th, td⟩ := t
    have ht : tb = false := ht
    subst ht
    simp [opS, Ex.op, Ex.um, Ex.uh, Ex.ud, resS, equS]
def tabL : List (ByteArray × Int × Ty) := [(n_h, 1, tH), (n_g, 1, t0), (n_f, 1, tB), (n_gross, 5, tM), (n_time, 5, tH), (n_w, 2, tR), (n_s, 2, t0), (n_r1, 3, tR), (n_r2, 3, tM), (n_r3, 3, tB), (n_r4, 3, t0), (n_a, 4, t0), (n_b, 4, t0)]
def neds : List ByteArray := [n_h, n_g, n_f, n_gross, n_time, n_w, n_s, n_r1, n_r2, n_r3, n_r4, n_a]
def rhoD (wild : Bool) (nm : ByteArray) : Int := if wild = true then 5 else rank nm
def KS : List (ByteArray × Int) := [(n_h, 0), (n_g, 0), (n_f, 0), (n_gross, 0), (n_time, 0), (n_w, 20454), (n_s, 20454), (n_w, 20459), (n_r1, 20454), (n_r1, 20459), (n_r2, 20454), (n_r2, 20459), (n_r3, 20454), (n_r3, 20459), (n_r4, 20454), (n_r4, 20459), (n_a, 20454), (n_b, 20454)]
def keyD (d : Df) : ByteArray × Int := (d.nm, d.day)
structure GD (wild : Bool) (hh : Nat) (d : Df) : Prop where
  tab : (d.nm, d.kind, d.ty) ∈ tabL
  df : defS d = true
  bd : BdD d
  wt : d.kind = 3 ∨ d.kind = 4 → EOk (rhoD wild d.nm) hh (tyD d) d.body
  dy : d.kind = 3 → d.day = 20454 ∨ d.day = 20459
structure AGood (wild : Bool) (hh : Nat) (l : List Df) : Prop where
  all : ∀ d, d ∈ l → GD wild hh d
  key : (l.map fun d => (d.nm.toList, d.day)).Nodup
  has : ∀ n, n ∈ neds → n ∈ l.map Df.nm
  len : l.length ≤ 30
  ks : ∀ d, d ∈ l → keyD d ∈ KS
theorem tab_one : ∀ a, a ∈ tabL → ∀ b, b ∈ tabL → a.1.toList = b.1.toList → a.2 = b.2 := by decide +kernel
theorem tab_nm : ∀ a, a ∈ tabL → nameS a.1 = true := by decide +kernel
theorem mm {P : Prop} (h : P := by (first | unfold tabL | unfold neds); repeat' (first | exact List.Mem.head _ | refine List.Mem.tail _ ?_)) : P := h
theorem lF_take {l : List Df} {n : Nat} (hn : n < l.length) : lF dD l n = l[n] := by unfold lF; rw [List.getD_eq_getElem?_getD, List.getElem?_eq_getElem hn]; rfl
theorem AGood.perm {wild : Bool} {hh : Nat} {l l' : List Df} (h : AGood wild hh l) (hp : l.Perm l') : AGood wild hh l' :=
  ⟨fun d hd => h.all d (hp.mem_iff.2 hd), (hp.map _).nodup_iff.1 h.key, fun n hn => (hp.map _).mem_iff.1 (h.has n hn), by rw [← hp.length_eq]; exact h.len, fun d hd => h.ks d (hp.mem_iff.2 hd)⟩
end Go.Proofs.Ytcefhgomkehokaa
