/- The tape of package payrollgen: what New, Mod and Next do. The tape is told by the list of the numbers that are left. -/
import Derived.Test.YtgjabadcgndkhaaBase
set_option linter.unusedSimpArgs false
set_option linter.unusedVariables false
namespace Go.Proofs.Ytgjabadcgndkhaa
open Go.RowKit

def mod (v n : Int) : Int := v % n

set_option maxHeartbeats 400000 in
theorem mod_any (v n : Int) (w : World) (hn : 1 ≤ n) (hn2 : n ≤ 9223372036854775807) :
    Calls Try.prog 14 #[.int .i64 v, .int .i64 n] w fun e w' => e = .returned (.int .i64 (mod v n)) ∧ w = w' := by
  obtain ⟨h1, h2, h3, h4⟩ := tmod_mod v n hn
  go_enter Try.func14, Try.ntmps14
  go_wp2
  all_goals go_ret
  · exact ⟨rfl, rfl⟩
  · exact ⟨by rw [mod, ← h2 (by omega)]; rfl, rfl⟩

set_option maxHeartbeats 400000 in
theorem next_some (tb b off cap at_ len : Nat) (n x : Int) (w : World) (hn : 1 ≤ n) (hn2 : n ≤ 9223372036854775807)
    (hl : len ≤ 9223372036854775807) (ha : at_ < len)
    (h0 : w.cell? ⟨tb, 0, none⟩ = some (.slice (some ⟨b, off, none⟩) len cap)) (h1 : w.cell? ⟨tb, 1, none⟩ = some (.int .i64 at_)) (hf : w.frozen? ⟨tb, 1, none⟩ = false)
    (hne : tb ≠ b)
    (hc : w.cell? ⟨b, off + at_, none⟩ = some (.int .i64 x)) :
    Calls Try.prog 6 #[.pointer (some ⟨tb, 0, none⟩), .int .i64 n] w fun e w' => e = .returned (.int .i64 (mod x n)) ∧ SetAt w ⟨tb, 1, none⟩ (.int .i64 (at_ + 1)) w' := by
  go_enter Try.func6, Try.ntmps6
  go_wp2_with fail
  go_quiet (fail)
  go_wp2_with fail
  have e0 : ((w.drewN nq).setCell { block := tb, off := 1 } (Value.int IntKind.i64 (↑at_ + 1))).cell? ⟨tb, 0, none⟩ = some (.slice (some ⟨b, off, none⟩) len cap) := by
    rw [World.cell?_setCell_other _ _ _ _ (by simp)]; exact h0
  have e1 : ((w.drewN nq).setCell { block := tb, off := 1 } (Value.int IntKind.i64 (↑at_ + 1))).cell? ⟨tb, 1, none⟩ = some (.int .i64 (at_ + 1)) := by
    exact World.cell?_setCell_same _ _ _ (u := .int .i64 at_) h1
  have ec : ((w.drewN nq).setCell { block := tb, off := 1 } (Value.int IntKind.i64 (↑at_ + 1))).cell? ⟨b, off + at_, none⟩ = some (.int .i64 x) := by
    rw [World.cell?_setCell_other _ _ _ _ (fun h => hne (congrArg Addr.block h))]; exact hc
  have KW : SetAt w ⟨tb, 1, none⟩ (.int .i64 (at_ + 1)) ((w.drewN nq).setCell { block := tb, off := 1 } (Value.int IntKind.i64 (↑at_ + 1))) := ⟨nq, rfl⟩
  generalize (w.drewN nq).setCell { block := tb, off := 1 } (Value.int IntKind.i64 (↑at_ + 1)) = w2 at e0 e1 ec KW ⊢
  clear h0 h1 hc hf
  have ewr : IntKind.i64.wrap (at_ : Int) = at_ := IntWalk.i64_in _ (by omega)
  have et : (0 : Int) ≤ at_ := by omega
  go_quiet ((go_at_call 14; exact quiet_of_eq (mod_any _ _ _ hn hn2)))
  go_wp2
  go_ret
  obtain ⟨k, rfl⟩ := KW
  exact ⟨rfl, _, World.drewN_drewN _ _ _⟩

set_option maxHeartbeats 400000 in
theorem next_none (tb at_ len cap : Nat) (a : Option Addr) (n : Int) (w : World)
    (ha : n < 1 ∨ len ≤ at_)
    (h0 : w.cell? ⟨tb, 0, none⟩ = some (.slice a len cap)) (h1 : w.cell? ⟨tb, 1, none⟩ = some (.int .i64 at_)) :
    Calls Try.prog 6 #[.pointer (some ⟨tb, 0, none⟩), .int .i64 n] w fun e w' => e = .returned (.int .i64 0) ∧ ∃ k, w' = w.drewN k := by
  by_cases hn : n < 1
  · have hd : decide (n < 1) = true := by simpa using hn
    clear ha
    go_enter Try.func6, Try.ntmps6
    go_wp2_with fail
    go_quiet (fail)
    go_wp2_with fail
    go_ret
    exact ⟨rfl, _, rfl⟩
  · have hd : decide (n < 1) = false := by simpa using hn
    have he : len ≤ at_ := by omega
    clear ha
    go_enter Try.func6, Try.ntmps6
    go_wp2_with fail
    go_quiet (fail)
    go_wp2_with fail
    go_ret
    exact ⟨rfl, _, rfl⟩

/-- the tape at block tb has the numbers l left -/
def TapeIs (w : World) (tb : Nat) (l : List Int) : Prop :=
  ∃ (a : Option Addr) (len cap at_ : Nat), w.heap[tb]? = some (.cells #[.slice a len cap, .int .i64 at_] 37 (0, 0)) ∧ len ≤ 9223372036854775807 ∧ l.length = len - at_ ∧
    ∀ k, k < l.length → ∃ b off, a = some ⟨b, off, none⟩ ∧ b < tb ∧ w.cell? ⟨b, off + (at_ + k), none⟩ = some (.int .i64 (l.getD k 0))

theorem TapeIs.keep {w w' : World} {tb : Nat} {l : List Int} (h : TapeIs w tb l) (hw : Ext w w') : TapeIs w' tb l := by
  obtain ⟨a, len, cap, at_, h1, h2, h3, h4⟩ := h
  have ht := lt_of_heap h1
  refine ⟨a, len, cap, at_, by rw [hw.block _ ht]; exact h1, h2, h3, fun k hk => ?_⟩
  obtain ⟨b, off, e1, e2, e3⟩ := h4 k hk
  exact ⟨b, off, e1, e2, by rw [Below.cell hw (p := ⟨b, _, none⟩) (by show b < _; omega)]; exact e3⟩
/-- .. where another block than the tape's, made later, was written -/
theorem TapeIs.keep2 {w w' : World} {tb sb : Nat} {l : List Int} (h : TapeIs w tb l) (hw : Kept sb w w') (hs : tb < sb) : TapeIs w' tb l := by
  obtain ⟨a, len, cap, at_, h1, h2, h3, h4⟩ := h
  have ht := lt_of_heap h1
  refine ⟨a, len, cap, at_, by rw [hw.block _ ht (by omega)]; exact h1, h2, h3, fun k hk => ?_⟩
  obtain ⟨b, off, e1, e2, e3⟩ := h4 k hk
  refine ⟨b, off, e1, e2, ?_⟩
  rw [World.cell?_of_block (w := w) (hw.block b (by omega) (by omega))]; exact e3
theorem TapeIs.lt {w : World} {tb : Nat} {l : List Int} (h : TapeIs w tb l) : tb < w.heap.size := by
  obtain ⟨a, len, cap, at_, h1, _⟩ := h; exact lt_of_heap h1

/-- what Next answers, and what is left -/
def nx (n : Int) (l : List Int) : Int := if n < 1 then 0 else match l with | [] => 0 | x :: _ => mod x n
def nt (n : Int) (l : List Int) : List Int := if n < 1 then l else l.tail
theorem nx_bd (n : Int) (l : List Int) (h : 1 ≤ n) : 0 ≤ nx n l ∧ nx n l < n := by
  unfold nx; rw [if_neg (by omega)]
  cases l with
  | nil => simp; omega
  | cons x r => simp only [mod]; exact ⟨Int.emod_nonneg _ (by omega), Int.emod_lt_of_pos _ (by omega)⟩

/-- what a call of a method of the tape leaves -/
structure Taped (tb : Nat) (l : List Int) (w w' : World) : Prop where
  kept : Kept tb w w'
  is : TapeIs w' tb l

theorem next_any (tb : Nat) (n : Int) (l : List Int) (w : World) (hn2 : n ≤ 9223372036854775807) (ht : TapeIs w tb l) :
    Calls Try.prog 6 #[.pointer (some ⟨tb, 0, none⟩), .int .i64 n] w fun e w' => e = .returned (.int .i64 (nx n l)) ∧ Taped tb (nt n l) w w' := by
  have hkeep := ht
  obtain ⟨a, len, cap, at_, h1, h2, h3, h4⟩ := ht
  by_cases hn : n < 1
  · refine (next_none tb at_ len cap a n w (.inl hn) (cell_of_heap h1 rfl) (cell_of_heap h1 rfl)).mono ?_
    rintro e w' ⟨rfl, k, rfl⟩
    exact ⟨by simp [nx, hn], Kept.of_ext ((Ext.refl w).drewN k), by rw [nt, if_pos hn]; exact hkeep.keep ((Ext.refl w).drewN k)⟩
  · cases l with
    | nil =>
      refine (next_none tb at_ len cap a n w (.inr (by simp at h3; omega)) (cell_of_heap h1 rfl) (cell_of_heap h1 rfl)).mono ?_
      rintro e w' ⟨rfl, k, rfl⟩
      exact ⟨by simp [nx], Kept.of_ext ((Ext.refl w).drewN k), by rw [nt, if_neg hn]; exact hkeep.keep ((Ext.refl w).drewN k)⟩
    | cons x r =>
      obtain ⟨b, off, rfl, e2, e3⟩ := h4 0 (by simp)
      simp only [List.length_cons] at h3
      refine (next_some tb b off cap at_ len n x w (by omega) hn2 h2 (by omega) (cell_of_heap h1 rfl) (cell_of_heap h1 rfl) (free_of_heap h1) (by omega) (by simpa using e3)).mono ?_
      rintro e w' ⟨rfl, k, rfl⟩
      refine ⟨by simp [nx, hn], ((Kept.refl tb w).setCell (.inr rfl) _).drewN k, ?_⟩
      rw [nt, if_neg hn]
      refine ⟨some ⟨b, off, none⟩, len, cap, at_ + 1, ?_, h2, by simp; omega, fun j hj => ?_⟩
      · show (w.setCell _ _).heap[tb]? = _
        rw [heap_setCell_at w tb 1 _ _ _ _ h1]; simp
      · obtain ⟨b', off', e4, e5, e6⟩ := h4 (j + 1) (by simp at hj ⊢; omega)
        simp only [Option.some.injEq, Addr.mk.injEq, and_true] at e4
        obtain ⟨rfl, rfl⟩ := e4
        refine ⟨b, off, rfl, e5, ?_⟩
        show (w.setCell _ _).cell? _ = _
        rw [World.cell?_setCell_other _ _ _ _ (fun h => by have := congrArg Addr.block h; simp at this; omega)]
        rw [show at_ + 1 + j = at_ + (j + 1) from by omega, e6]; simp

set_option maxHeartbeats 400000 in
theorem new_walk (v : Value) (w : World) (hv : ∃ a len cap, v = .slice a len cap) :
    Calls Try.prog 5 #[v] w fun e w' => e = .returned (.pointer (some ⟨w.heap.size, 0, none⟩)) ∧ w' = w.alloc (.cells #[v, .int .i64 0] 37) := by
  obtain ⟨a, len, cap, rfl⟩ := hv
  go_enter Try.func5, Try.ntmps5
  go_wp2
  go_ret
  exact ⟨rfl, rfl⟩

/-- the slice value v reads in w as the numbers l -/
def IntsAt (w : World) (v : Value) (l : List Int) : Prop :=
  ∃ (a : Option Addr) (cap : Nat), v = .slice a l.length cap ∧ l.length ≤ 9223372036854775807 ∧
    ∀ k, k < l.length → ∃ b off, a = some ⟨b, off, none⟩ ∧ b < w.heap.size ∧ w.cell? ⟨b, off + k, none⟩ = some (.int .i64 (l.getD k 0))

/-- what New leaves -/
theorem new_tape (v : Value) (l : List Int) (w : World) (h : IntsAt w v l) : TapeIs (w.alloc (.cells #[v, .int .i64 0] 37)) w.heap.size l := by
  obtain ⟨a, cap, rfl, hl, hc⟩ := h
  refine ⟨a, l.length, cap, 0, heap_alloc_new _ _, hl, by omega, fun k hk => ?_⟩
  obtain ⟨b, off, e1, e2, e3⟩ := hc k hk
  refine ⟨b, off, e1, e2, ?_⟩
  rw [Below.cell ((Ext.refl w).alloc _) (p := ⟨b, _, none⟩) e2]
  simpa using e3
theorem IntsAt.keep {w w' : World} {v : Value} {l : List Int} (h : IntsAt w v l) (hw : Ext w w') : IntsAt w' v l := by
  obtain ⟨a, cap, e, hl, hc⟩ := h
  refine ⟨a, cap, e, hl, fun k hk => ?_⟩
  obtain ⟨b, off, e1, e2, e3⟩ := hc k hk
  exact ⟨b, off, e1, Nat.lt_of_lt_of_le e2 hw.size, by rw [Below.cell hw (p := ⟨b, _, none⟩) e2]; exact e3⟩
theorem intsAt_of_row {w : World} {a : Option Addr} {len cap : Nat} {zs : List Int} (h : (a = none ∧ len = 0 ∧ cap = 0 ∧ zs = []) ∨ ∃ x, a = some x ∧ len ≤ cap ∧ cap ≤ maxLen ∧ zs.length = cap ∧ (∀ i, i < zs.length → w.cell? (x.add i) = some (.int .i64 (zs.getD i 0))) ∧ ∀ n ∈ zs, (Lit.int .i64 n).wf = true) :
    IntsAt w (.slice a len cap) (zs.take len) := by
  rcases h with ⟨rfl, rfl, rfl, rfl⟩ | ⟨x, rfl, h1, h2, h3, h4, _⟩
  · exact ⟨none, 0, rfl, by simp, fun k hk => by simp at hk⟩
  · have hl : (zs.take len).length = len := by simp; omega
    unfold maxLen at h2
    refine ⟨some x, cap, by rw [hl], by rw [hl]; omega, fun k hk => ?_⟩
    rw [hl] at hk
    have hc := h4 k (by omega)
    have hc0 := h4 0 (by omega)
    obtain ⟨b, off, spot⟩ := x
    have hs : spot = none := by
      cases spot with
      | none => rfl
      | some q =>
        simp only [World.cell?, Addr.add, if_true] at hc0
        split at hc0 <;> simp at hc0
    subst hs
    have hc2 : w.cell? ⟨b, off + k, none⟩ = some (.int .i64 (zs.getD k 0)) := by
      rw [← hc]; congr 1; unfold Addr.add; split <;> simp_all
    refine ⟨b, off, rfl, ?_, by rw [hc2]; simp [List.getElem?_take, hk]⟩
    by_cases hb : b < w.heap.size
    · exact hb
    · simp [World.cell?, Array.getElem?_eq_none (show w.heap.size ≤ b by omega)] at hc2
theorem IntsAt.shape {w : World} {v : Value} {l : List Int} (h : IntsAt w v l) : ∃ a len cap, v = .slice a len cap := by
  obtain ⟨a, cap, e, _⟩ := h; exact ⟨a, _, cap, e⟩
end Go.Proofs.Ytgjabadcgndkhaa
