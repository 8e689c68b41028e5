/- Leave accounts, plain: accrual, minutes taken, days that bring nothing. -/
import Derived.Test.YtpaeomgnmimjoaaDoorL0
set_option linter.unusedSimpArgs false
set_option linter.unusedVariables false
namespace Go.Proofs.YtpaeomgnmimjoaaDoor
theorem m0_bd {r : LR} (hr : LOk r) : 0 ≤ m0S r ∧ m0S r ≤ monthS r.frm ∧ monthS r.frm ≤ m0S r + 1 ∧ monthS r.frm ≤ 2759 := by
  have h := hr.frm; have := hr.too
  have g := date_ok (d := r.frm) (by omega) (by omega)
  have := g.m0; have := g.m1
  unfold m0S; split <;> omega
theorem mem_evS {r : LR} {last n : Int} (h0 : m0S r ≤ n) (h1 : n ≤ monthS last) : firstS n ∈ evS r last ∧ firstS n + r.day ∈ evS r last := by
  unfold evS
  rw [mem_evN, mem_evN]
  have e : m0S r + ((n - m0S r).toNat : Nat) = n := by omega
  exact ⟨⟨(n - m0S r).toNat, by omega, .inl (by rw [e])⟩, ⟨(n - m0S r).toNat, by omega, .inr (by rw [e])⟩⟩
theorem ev_first {r : LR} (hr : LOk r) {last d : Int} (h1 : r.frm ≤ d) (h2 : d ≤ last) (h3 : last ≤ 84005) (h : (dateS d).2.2 = 1) : d ∈ evS r last := by
  have hf := hr.frm
  have e := (dd_one (by omega) (by omega)).1 h
  have := m0_bd hr
  have m1 := month_mono (a := r.frm) (by omega) h1 (by omega)
  have m2 := month_mono (a := d) (by omega) h2 h3
  have := (mem_evS (r := r) (last := last) (n := monthS d) (by omega) m2).1
  rw [e] at this; exact this
theorem ev_next {r : LR} (hr : LOk r) {last d : Int} (h1 : r.frm ≤ d) (h2 : d ≤ last) (h3 : last ≤ 84005) (h : (dateS (d - 1)).2.2 = r.day) : d ∈ evS r last := by
  have hf := hr.frm
  have g := date_ok (d := d - 1) (by omega) (by omega)
  have := g.sum
  have hb := m0_bd hr
  have m2 := month_mono (a := d - 1) (b := last) (by omega) (by omega) h3
  have m1 : m0S r ≤ monthS (d - 1) := by
    by_cases hc : d = r.frm
    · have g0 := date_ok (d := r.frm) (by omega) (by omega)
      have k1 := g0.sum; have k2 := g0.lo; have k3 := g0.m0; have k4 := g0.m1
      rcases (by omega : m0S r = monthS r.frm ∨ m0S r + 1 = monthS r.frm) with e | e
      · have : monthS r.frm = 0 := by
          unfold m0S at e; split at e <;> omega
        have := g.m0; omega
      · have f1 := first_lt (a := m0S r) (b := monthS r.frm) (by omega) (by omega) (by omega)
        have f2 := first_rng (n := m0S r) (by omega) (by omega)
        have f3 := month_mono (a := firstS (m0S r)) (b := d - 1) (by omega) (by omega) (by omega)
        rw [(month_first (n := m0S r) (by omega) (by omega)).1] at f3
        exact f3
    · have m1 := month_mono (a := r.frm) (b := d - 1) (by omega) (by omega) (by omega)
      omega
  have := (mem_evS (r := r) (last := last) (n := monthS (d - 1)) m1 m2).2
  rw [show firstS (monthS (d - 1)) + r.day = d by omega] at this
  exact this
theorem bkS_zero {x : Int} : ∀ {l : List (Int × Int)}, x ∉ l.map (·.1) → bkS l x = 0
  | [], _ => rfl
  | b :: l, h => by
    simp only [List.map_cons, List.mem_cons, not_or] at h
    rw [bkS, if_neg (fun e => h.1 e.symm), bkS_zero h.2]; rfl
theorem bkS_bd {x : Int} : ∀ {l : List (Int × Int)}, (∀ b, b ∈ l → 0 ≤ b.2 ∧ b.2 ≤ 1000000) → 0 ≤ bkS l x ∧ bkS l x ≤ 1000000 * l.length
  | [], _ => by simp [bkS]
  | b :: l, h => by
    have ih := bkS_bd (x := x) (l := l) fun y hy => h y (by simp [hy])
    have := h b (by simp)
    rw [bkS, List.length_cons]
    split <;> omega
theorem bkS_app {x : Int} : ∀ (l m : List (Int × Int)), bkS (l ++ m) x = bkS l x + bkS m x
  | [], m => by simp [bkS]
  | b :: l, m => by rw [List.cons_append, bkS, bkS, bkS_app]; omega
/-- a day more, without minutes -/
theorem room_idle {r : LR} (hr : LOk r) {l : List (Int × Int)} (hl : ∀ b, b ∈ l → 0 ≤ b.2 ∧ b.2 ≤ 1000000) (hn : l.length ≤ 2000) {d : Int} (h1 : r.frm ≤ d) (h2 : d ≤ r.too) :
    passS r (bkS l) (acc0 r) (dsS r (d :: l.map (·.1)) r.too) = passS r (bkS l) (acc0 r) (dsS r (l.map (·.1)) r.too) := by
  by_cases hc : d ∈ evS r r.too ∨ d ∈ l.map (·.1)
  · have : dsS r (d :: l.map (·.1)) r.too = dsS r (l.map (·.1)) r.too := ds_uniq (ds_sorted _ _ _) fun x => by
      rw [mem_ds, List.mem_cons]
      constructor
      · rintro ⟨a, b, c | rfl | c⟩
        · exact ⟨a, b, .inl c⟩
        · exact ⟨a, b, hc⟩
        · exact ⟨a, b, .inr c⟩
      · rintro ⟨a, b, c | c⟩
        · exact ⟨a, b, .inl c⟩
        · exact ⟨a, b, .inr (.inr c)⟩
    rw [this]
  · have h3 := hr.too
    refine pass_idle hr (x := d) (bkS_zero fun h => hc (.inr h)) (fun h => hc (.inl (ev_first hr h1 h2 h3 h))) (fun h => hc (.inl (ev_next hr h1 h2 h3 h.2))) (fun x hx => ?_) (fun x => ?_) _ _ 0 (inv_0 hr)
    · rw [decide_eq_decide.2 (show x ∈ d :: l.map (·.1) ↔ x ∈ l.map (·.1) from by rw [List.mem_cons]; exact ⟨fun h => h.resolve_left hx, .inr⟩)]
    · have := bkS_bd (x := x) hl; omega
/-- accrued minutes -/
def accF (r : LR) (last : Int) : Nat → Int
  | 0 => r.opn
  | k + 1 => accF r last k + (if r.frm ≤ firstS (monthS r.frm + k) ∧ firstS (monthS r.frm + k) ≤ last then r.mon else 0)
def accS (r : LR) (day : Int) : Int := accF r (if r.too < day then r.too else day) (monthS (if r.too < day then r.too else day) + 1 - monthS r.frm).toNat
def frs (r : LR) (last : Int) (k : Nat) : List Int := ((List.range k).map fun j => firstS (monthS r.frm + (j : Nat))).filter fun x => decide (r.frm ≤ x ∧ x ≤ last)
theorem accF_eq (r : LR) (last : Int) : ∀ k : Nat, accF r last k = r.opn + r.mon * (frs r last k).length
  | 0 => by simp [accF, frs]
  | k + 1 => by
    rw [accF, accF_eq r last k]
    unfold frs
    rw [List.range_succ, List.map_append, List.filter_append, List.length_append]
    simp only [List.map_cons, List.map_nil]
    by_cases h : r.frm ≤ firstS (monthS r.frm + k) ∧ firstS (monthS r.frm + k) ≤ last
    · rw [if_pos h, List.filter_cons, if_pos (by simpa using h)]
      simp only [List.filter_nil, List.length_cons, List.length_nil]
      rw [Int.natCast_add, Int.mul_add]; simp; omega
    · rw [if_neg h, List.filter_cons, if_neg (by simpa using h)]
      simp
theorem sumL_ite (c : Int) (p : Int → Bool) : ∀ L : List Int, sumL (L.map fun d => if p d = true then c else 0) = c * (L.filter p).length
  | [] => by simp [sumL]
  | d :: L => by
    rw [List.map_cons, sumL, sumL_ite c p L, List.filter_cons]
    split
    · rw [List.length_cons, Int.natCast_add, Int.mul_add]; simp; omega
    · simp
theorem acc_days {r : LR} (hr : LOk r) (K : List Int) {day : Int} (h1 : r.frm ≤ day) (h2 : day ≤ 84005) :
    accS r day = r.opn + sumL ((dsS r K day).map fun d => if (dateS d).2.2 = 1 ∧ d ≤ r.too then r.mon else 0) := by
  have hf := hr.frm
  have ht := hr.too
  obtain ⟨last, hlast⟩ : ∃ x, x = (if r.too < day then r.too else day) := ⟨_, rfl⟩
  have hl1 : last ≤ day := by rw [hlast]; split <;> omega
  have hl2 : last ≤ r.too := by rw [hlast]; split <;> omega
  have hl3 : r.frm ≤ last := by rw [hlast]; split <;> omega
  have hl4 : ∀ x, x ≤ day → x ≤ r.too → x ≤ last := fun x a b => by rw [hlast]; split <;> omega
  unfold accS
  rw [← hlast, accF_eq]
  have e : (fun d => if (dateS d).2.2 = 1 ∧ d ≤ r.too then r.mon else 0) = (fun d => if (decide ((dateS d).2.2 = 1 ∧ d ≤ r.too)) = true then r.mon else 0) := by funext d; simp
  rw [e, sumL_ite]
  have hm := m0_bd hr
  have hL : frs r last (monthS last + 1 - monthS r.frm).toNat = (dsS r K day).filter fun d => decide ((dateS d).2.2 = 1 ∧ d ≤ r.too) := ?_
  · rw [hL]
  refine sorted_ext ?_ ((ds_sorted r K day).filter _) fun x => ?_
  · unfold frs
    refine List.Pairwise.filter _ ?_
    rw [List.pairwise_map]
    refine List.Pairwise.imp_of_mem ?_ List.pairwise_lt_range
    intro a b ha hb hab
    have hb := List.mem_range.1 hb
    have := (date_ok (d := last) (by omega) (by omega)).m1
    have := first_lt (a := monthS r.frm + a) (b := monthS r.frm + b) (by omega) (by omega) (by omega)
    omega
  · unfold frs
    rw [List.mem_filter, List.mem_filter, mem_ds, List.mem_map]
    simp only [decide_eq_true_eq, List.mem_range]
    constructor
    · rintro ⟨⟨j, hj, rfl⟩, k1, k2⟩
      have := (date_ok (d := last) (by omega) (by omega)).m1
      have hd := (month_first (n := monthS r.frm + (j : Nat)) (by omega) (by omega)).2
      exact ⟨⟨k1, by omega, .inl (ev_first hr k1 (by omega) h2 hd)⟩, hd, by omega⟩
    · rintro ⟨⟨k1, k2, _⟩, k3, k4⟩
      have k5 := hl4 x k2 k4
      have m1 := month_mono (a := r.frm) (b := x) (by omega) k1 (by omega)
      have m2 := month_mono (a := x) (b := last) (by omega) k5 (by omega)
      have := (dd_one (d := x) (by omega) (by omega)).1 k3
      exact ⟨⟨(monthS x - monthS r.frm).toNat, by omega, by rw [show monthS r.frm + ((monthS x - monthS r.frm).toNat : Nat) = monthS x by omega]; exact this⟩, k1, k5⟩
/-- minutes taken up to a day -/
def takS : List (Int × Int) → Int → Int
  | [], _ => 0
  | b :: l, d => (if b.1 ≤ d then b.2 else 0) + takS l d
theorem sumL_one (x c : Int) : ∀ L : List Int, L.Nodup → sumL (L.map fun d => if x = d then c else 0) = if x ∈ L then c else 0
  | [], _ => by simp [sumL]
  | d :: L, h => by
    have h := List.nodup_cons.1 h
    rw [List.map_cons, sumL, sumL_one x c L h.2]
    by_cases e : x = d
    · subst e; rw [if_pos rfl, if_neg h.1, if_pos (by simp)]; omega
    · rw [if_neg e]
      by_cases e2 : x ∈ L
      · rw [if_pos e2, if_pos (by simp [e2])]; omega
      · rw [if_neg e2, if_neg (by simp [e, e2])]; omega
theorem sumL_add (f g : Int → Int) : ∀ L : List Int, sumL (L.map fun d => f d + g d) = sumL (L.map f) + sumL (L.map g)
  | [] => by simp [sumL]
  | d :: L => by simp only [List.map_cons, sumL, sumL_add f g L]; omega
theorem sum_book (L : List Int) (hL : L.Nodup) (d : Int) : ∀ l : List (Int × Int), (∀ b, b ∈ l → (b.1 ∈ L ↔ b.1 ≤ d)) → sumL (L.map (bkS l)) = takS l d
  | [], _ => by
    have : ∀ M : List Int, sumL (M.map (bkS [])) = 0 := fun M => by induction M with | nil => rfl | cons x M ih => rw [List.map_cons, sumL, ih]; rfl
    rw [this]; rfl
  | b :: l, h => by
    have e : bkS (b :: l) = fun d => (if b.1 = d then b.2 else 0) + bkS l d := rfl
    rw [e, sumL_add, sum_book L hL d l fun x hx => h x (by simp [hx]), sumL_one _ _ _ hL, takS]
    have := h b (by simp)
    by_cases hb : b.1 ≤ d
    · rw [if_pos hb, if_pos (this.2 hb)]
    · rw [if_neg hb, if_neg (fun q => hb (this.1 q))]
/-- nothing appears or disappears -/
theorem conserves {r : LR} (hr : LOk r) {l : List (Int × Int)} (hn : l.length ≤ 2000) (hl : ∀ b, b ∈ l → (r.frm ≤ b.1 ∧ b.1 ≤ r.too) ∧ 0 ≤ b.2 ∧ b.2 ≤ 1000000) {day : Int} (h1 : r.frm ≤ day) (h2 : day ≤ 84005) (h : (balS r l day).2 = 0) :
    0 ≤ (balS r l day).1.car ∧ 0 ≤ (balS r l day).1.los ∧ (balS r l day).1.tak = takS l day ∧ (balS r l day).1.car + (balS r l day).1.cur + (balS r l day).1.los + (balS r l day).1.tak = accS r day := by
  unfold balS at h ⊢
  split at h
  · rename_i hc
    rw [if_pos hc]
    obtain ⟨a, b, c, d⟩ := pass_spec hr _ _ 0 (inv_0 hr) (fun x _ => by have := bkS_bd (x := x) fun y hy => (hl y hy).2; omega) hc
    refine ⟨a, b, ?_, ?_⟩
    · rw [d, sum_book _ ((ds_sorted _ _ _).imp fun h => by omega) day]
      · simp [acc0]
      · intro y hy
        have := (hl y hy).1
        rw [mem_ds]
        constructor
        · exact fun h => h.2.1
        · exact fun h => ⟨this.1, h, .inr (List.mem_map.2 ⟨y, hy, rfl⟩)⟩
    · rw [acc_days hr (l.map (·.1)) h1 h2]
      have e : sumA (acc0 r) = r.opn := by simp [sumA, acc0]
      rw [e] at c
      unfold sumA at c
      exact c
  · exact absurd h (by decide)
end Go.Proofs.YtpaeomgnmimjoaaDoor
