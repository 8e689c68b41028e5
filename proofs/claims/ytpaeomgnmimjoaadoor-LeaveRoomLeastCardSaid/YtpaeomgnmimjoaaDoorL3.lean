/- package leave: sums, pass, Accrued. -/
import Derived.Test.YtpaeomgnmimjoaaDoorL2
set_option linter.unusedSimpArgs false
set_option linter.unusedVariables false
set_option maxRecDepth 100000
namespace Go.Proofs.YtpaeomgnmimjoaaDoor
section
variable {K : Type} [DecidableEq K]
theorem mget_mset (k k' : K) (v : Int) : ∀ l : List (K × Int), mget (mset l k v) k' = if k = k' then some v else mget l k'
  | [] => by simp [mset, mget]
  | e :: l => by
    by_cases h : e.1 = k
    · rw [mset, if_pos h, mget]
      by_cases h2 : k = k'
      · rw [if_pos h2, if_pos h2]
      · rw [if_neg h2, if_neg h2, mget, if_neg (by rw [h]; exact h2)]
    · rw [mset, if_neg h, mget, mget_mset k k' v l, mget]
      by_cases h2 : e.1 = k'
      · rw [if_pos h2, if_pos h2, if_neg (fun e2 => h (h2.trans e2.symm))]
      · rw [if_neg h2, if_neg h2]
theorem len_mset (k : K) (v : Int) : ∀ l : List (K × Int), (mset l k v).length ≤ l.length + 1
  | [] => by simp [mset]
  | x :: l => by
    by_cases h1 : x.1 = k
    · rw [mset, if_pos h1]; simp
    · rw [mset, if_neg h1]; have := len_mset k v l; simp; omega
theorem mget_mem {k : K} : ∀ {l : List (K × Int)}, k ∈ l.map (·.1) ↔ (mget l k).isSome = true
  | [] => by simp [mget]
  | e :: l => by
    rw [mget, List.map_cons, List.mem_cons]
    by_cases h : e.1 = k
    · rw [if_pos h]; simp [h]
    · rw [if_neg h, ← mget_mem (l := l)]; simp [Ne.symm h]
theorem mem_mset_keys (k x : K) (v : Int) (l : List (K × Int)) : x ∈ (mset l k v).map (·.1) ↔ x = k ∨ x ∈ l.map (·.1) := by
  rw [mget_mem, mget_mset, mget_mem]
  by_cases h : k = x
  · rw [if_pos h]; simp [h]
  · rw [if_neg h]; simp [Ne.symm h]
end
def mapII : MapT G.P 50 kI := ⟨3, 3, _, Tryd.underlying50, Tryd.underlying3, fun _ => rfl, kI_inj, Tryd.zeroValue3⟩
/-- bookings -/
abbrev Bk := Int × Int
abbrev dB : Bk := (0, 0)
abbrev cP (p : Bk) : List PV := [vi p.1, vi p.2]
theorem cP_cl : CellsCl cP := fun _ => ⟨trivial, trivial, trivial⟩
abbrev vBs (l : List Bk) : PV := .vsl l.length 2 (tF cP (lF dB l))
/-- the map of the sums -/
structure SumB (l : List Bk) (m : List (Int × Int)) : Prop where
  val : ∀ d, (mget m d).getD 0 = bkS l d
  occ : ∀ x, x ∈ m.map (·.1) ↔ x ∈ l.map (·.1)
  len : m.length ≤ l.length
theorem SumB.step {l : List Bk} {m : List (Int × Int)} (h : SumB l m) (b : Bk) : SumB (l ++ [b]) (mset m b.1 (bkS l b.1 + b.2)) := by
  refine ⟨fun d => ?_, fun x => ?_, by have := len_mset b.1 (bkS l b.1 + b.2) m; have := h.len; simp; omega⟩
  · rw [mget_mset, bkS_app]
    simp only [bkS]
    by_cases e : b.1 = d
    · subst e; rw [if_pos rfl, if_pos rfl]; simp
    · rw [if_neg e, if_neg e, h.val]; simp
  · rw [mem_mset_keys, h.occ, List.map_append, List.mem_append]
    simp [or_comm]
theorem lF_get {α : Type} {d : α} {l : List α} {i : Nat} (h : i < l.length) : lF d l i = l[i] := by
  unfold lF; rw [List.getD_eq_getElem?_getD, List.getElem?_eq_getElem h]; rfl
theorem take_step {α : Type} {d : α} {l : List α} {i : Nat} (h : i < l.length) : l.take (i + 1) = l.take i ++ [lF d l i] := by
  rw [lF_get h, List.take_add_one, List.getElem?_eq_getElem h]; rfl
theorem drop_step {α : Type} {d : α} {l : List α} {i : Nat} (h : i < l.length) : l.drop i = lF d l i :: l.drop (i + 1) := by
  rw [lF_get h, List.drop_eq_getElem_cons h]
theorem sums_r (l : List Bk) (hn : l.length ≤ 2000) (hl : ∀ b, b ∈ l → 0 ≤ b.2 ∧ b.2 ≤ 1000000) : RowsC G.P 18 [] [vBs l] (fun q rows => q = .mref 0 ∧ ∃ m, rows = [mRow kI m] ∧ SumB l m) := by
  refine rows_of (G := G.toPg) (fn := Tryd.f18) Tryd.func18 rfl rfl rfl ?_; intro Γ hk
  repeat' (first | refine yo ?_ ?_ | refine yw ?_ ?_ | refine yk ?_ ?_ | exact trivial | with_reducible refine wA ?_ ?_ | refine ys ?_ ?_ | refine xs_done ?_ | refine yl ?_ ?_ | refine w8 ?_ | refine w9 ?_ | refine w1 ?_ | refine w2 ?_ | refine w3 ?_ | refine w4 ?_ | refine w5 ?_ | refine w6 ?_ | refine w7 ?_ | refine yo0 ?_ ?_ | refine yw0 ?_ ?_ | exact qq | fail)
  refine pop_mkmap kI rfl rfl rfl rfl rfl ?_
  repeat' (first | refine yo ?_ ?_ | refine yw ?_ ?_ | refine yk ?_ ?_ | exact trivial | with_reducible refine wA ?_ ?_ | refine ys ?_ ?_ | refine xs_done ?_ | refine yl ?_ ?_ | refine w8 ?_ | refine w9 ?_ | refine w1 ?_ | refine w2 ?_ | refine w3 ?_ | refine w4 ?_ | refine w5 ?_ | refine w6 ?_ | refine w7 ?_ | refine yo0 ?_ ?_ | refine yw0 ?_ ?_ | exact qq | fail)
  refine pcan (st' := ⟨[(3, .mref 0), (7, vBs l), (8, vi l.length), (9, vi ((0 : Nat) : Int))], [mRow kI []]⟩) (can_rowsv [0] (k0_sel hk rfl) rfl (.cons rfl m_eq .nil) tmq) ?_
  refine ploop (fun q st => ∃ (i : Nat) (m : List (Int × Int)), i ≤ l.length ∧ SumB (l.take i) m ∧ q = l.length - i ∧ st = ⟨[(3, .mref 0), (7, vBs l), (8, vi l.length), (9, vi i)], [mRow kI m]⟩) l.length ⟨0, [], by omega, ⟨fun d => rfl, fun x => by simp, by simp⟩, rfl, rfl⟩ ?_
  rintro _ _ ⟨i, m, hi, hM, rfl, rfl⟩
  repeat' (first | refine yo ?_ ?_ | refine yw ?_ ?_ | refine yk ?_ ?_ | exact trivial | with_reducible refine wA ?_ ?_ | refine ys ?_ ?_ | refine xs_done ?_ | refine yl ?_ ?_ | refine w8 ?_ | refine w9 ?_ | refine w1 ?_ | refine w2 ?_ | refine w3 ?_ | refine w4 ?_ | refine w5 ?_ | refine w6 ?_ | refine w7 ?_ | refine yo0 ?_ ?_ | refine yw0 ?_ ?_ | exact qq | fail)
  refine pcond rfl ?_ ?_ <;> intro hc2 <;> simp at hc2
  · have hb := bkS_bd (x := (lF dB l i).1) (l := l.take i) fun b hb => hl b (List.mem_of_mem_take hb)
    have hb2 := hl (lF dB l i) (by rw [lF_get hc2]; exact List.getElem_mem _)
    have hlen : (l.take i).length ≤ 2000 := by simp; omega
    have hw : IntKind.i64.wrap ((mget m (lF dB l i).1).getD 0 + (lF dB l (i : Int).toNat).2) = bkS (l.take i) (lF dB l i).1 + (lF dB l i).2 := by
      rw [hM.val]; show IntKind.i64.wrap (bkS (l.take i) (lF dB l i).1 + (lF dB l i).2) = _; rw [w64 (by omega) (by omega)]
    repeat' (first | refine yo ?_ ?_ | refine yw ?_ ?_ | refine yk ?_ ?_ | exact trivial | with_reducible refine wA ?_ ?_ | refine ys ?_ ?_ | refine xs_done ?_ | refine yl ?_ ?_ | refine w8 ?_ | refine w9 ?_ | refine w1 ?_ | refine w2 ?_ | refine w3 ?_ | refine w4 ?_ | refine w5 ?_ | refine w6 ?_ | refine w7 ?_ | refine yo0 ?_ ?_ | refine yw0 ?_ ?_ | exact qq | fail)
    refine pop_look mapII false (lF dB l i).1 rfl rfl rfl rfl rfl rfl rfl ?_
    repeat' (first | refine yo ?_ ?_ | refine yw ?_ ?_ | refine yk ?_ ?_ | exact trivial | with_reducible refine wA ?_ ?_ | refine ys ?_ ?_ | refine xs_done ?_ | refine yl ?_ ?_ | refine w8 ?_ | refine w9 ?_ | refine w1 ?_ | refine w2 ?_ | refine w3 ?_ | refine w4 ?_ | refine w5 ?_ | refine w6 ?_ | refine w7 ?_ | refine yo0 ?_ ?_ | refine yw0 ?_ ?_ | exact qq | fail)
    rw [hw]
    refine pop_mset mapII (lF dB l i).1 (bkS (l.take i) (lF dB l i).1 + (lF dB l i).2) rfl rfl rfl rfl rfl rfl rfl (by rw [hk]; exact Nat.zero_le _) rfl rfl ?_
    repeat' (first | refine yo ?_ ?_ | refine yw ?_ ?_ | refine yk ?_ ?_ | exact trivial | with_reducible refine wA ?_ ?_ | refine ys ?_ ?_ | refine xs_done ?_ | refine yl ?_ ?_ | refine w8 ?_ | refine w9 ?_ | refine w1 ?_ | refine w2 ?_ | refine w3 ?_ | refine w4 ?_ | refine w5 ?_ | refine w6 ?_ | refine w7 ?_ | refine yo0 ?_ ?_ | refine yw0 ?_ ?_ | exact qq | fail)
    rw [show IntKind.i64.wrap ((i : Int) + 1) = ((i + 1 : Nat) : Int) from w64 (by omega) (by omega)]
    exact kloop_next (st' := ⟨[(3, .mref 0), (7, vBs l), (8, vi l.length), (9, vi ((i + 1 : Nat) : Int))], [mRow kI (mset m (lF dB l i).1 (bkS (l.take i) (lF dB l i).1 + (lF dB l i).2))]⟩) (l.length - (i + 1)) (can_rowsv [0] (k0_sel hk rfl) rfl (.cons rfl m_eq .nil) tmq) (by omega) ⟨i + 1, _, by omega, by rw [take_step (d := dB) hc2]; exact hM.step _, rfl, rfl⟩
  · have hin : i = l.length := by omega
    subst hin
    repeat' (first | refine yo ?_ ?_ | refine yw ?_ ?_ | refine yk ?_ ?_ | exact trivial | with_reducible refine wA ?_ ?_ | refine ys ?_ ?_ | refine xs_done ?_ | refine yl ?_ ?_ | refine w8 ?_ | refine w9 ?_ | refine w1 ?_ | refine w2 ?_ | refine w3 ?_ | refine w4 ?_ | refine w5 ?_ | refine w6 ?_ | refine w7 ?_ | refine yo0 ?_ ?_ | refine yw0 ?_ ?_ | exact qq | fail)
    refine xdone ?_
    exact kretr (st' := ⟨[(2, .mref 0)], [mRow kI m]⟩) (can_rowsv [0] (k0_sel hk rfl) rfl (.cons rfl m_eq .nil) tmq) rfl ⟨trivial, trivial⟩ rfl ⟨rfl, m, rfl, by simpa using hM⟩
abbrev vDay (L : List Int) : PV := .vsl L.length 1 (tI (lF 0 L))
theorem pass_r (r : LR) (hr : LOk r) (m : List (Int × Int)) (B : Int → Int) (hB : ∀ d, (mget m d).getD 0 = B d) (hBb : ∀ d, 0 ≤ B d ∧ B d ≤ 2000000000) (L : List Int) (hL : L.length ≤ 90000) (hLd : ∀ d, d ∈ L → 1 ≤ d ∧ d ≤ 84005) :
    RowsC G.P 19 [mRow kI m] [vLR r, .mref 0, vDay L] (fun q rows => q = .tup 2 (nthP [vAc (passS r B (acc0 r) L).1, vb (passS r B (acc0 r) L).2]) ∧ rows = [mRow kI m, rLR r, rAc (passS r B (acc0 r) L).1]) := by
  obtain ⟨P, hP⟩ : ∃ P, P = passS r B (acc0 r) L := ⟨_, rfl⟩
  rw [← hP]
  refine rows_of (G := G.toPg) (fn := Tryd.f19) Tryd.func19 rfl rfl rfl ?_; intro Γ hk
  repeat' (first | refine yo ?_ ?_ | refine yw ?_ ?_ | refine yk ?_ ?_ | exact trivial | with_reducible refine wA ?_ ?_ | refine ys ?_ ?_ | refine xs_done ?_ | refine yl ?_ ?_ | refine w8 ?_ | refine w9 ?_ | refine w1 ?_ | refine w2 ?_ | refine w3 ?_ | refine w4 ?_ | refine w5 ?_ | refine w6 ?_ | refine w7 ?_ | refine yo0 ?_ ?_ | refine yw0 ?_ ?_ | exact qq | fail)
  refine pcan (st' := ⟨[(1, .mref 0), (3, .ptr 1 0 0), (6, .ptr 2 0 0), (8, .ptr 3 0 0), (16, vDay L), (17, vi L.length), (18, vi ((0 : Nat) : Int))], [mRow kI m, rLR r, rAc ⟨0, 0, 0, 0⟩, rAc (acc0 r)]⟩) (can_rowsv [0, 1, 2, 3] (k0_sel hk rfl) rfl (.cons rfl m_eq (.cons rfl rqq (.cons rfl rqq (.cons rfl rqq .nil)))) tmq) ?_
  refine ploop (fun q st => ∃ (i : Nat) (a : Acc), i ≤ L.length ∧ AInv a i ∧ passS r B a (L.drop i) = P ∧ q = L.length - i ∧ st = ⟨[(1, .mref 0), (3, .ptr 1 0 0), (6, .ptr 2 0 0), (8, .ptr 3 0 0), (16, vDay L), (17, vi L.length), (18, vi i)], [mRow kI m, rLR r, rAc ⟨0, 0, 0, 0⟩, rAc a]⟩) L.length ⟨0, acc0 r, by omega, inv_0 hr, by rw [hP]; rfl, rfl, rfl⟩ ?_
  rintro _ _ ⟨i, a, hi, hI, hV, rfl, rfl⟩
  repeat' (first | refine yo ?_ ?_ | refine yw ?_ ?_ | refine yk ?_ ?_ | exact trivial | with_reducible refine wA ?_ ?_ | refine ys ?_ ?_ | refine xs_done ?_ | refine yl ?_ ?_ | refine w8 ?_ | refine w9 ?_ | refine w1 ?_ | refine w2 ?_ | refine w3 ?_ | refine w4 ?_ | refine w5 ?_ | refine w6 ?_ | refine w7 ?_ | refine yo0 ?_ ?_ | refine yw0 ?_ ?_ | exact qq | fail)
  refine pcond rfl ?_ ?_ <;> intro hc <;> simp at hc
  · have hd := hLd (lF 0 L i) (by rw [lF_get hc]; exact List.getElem_mem _)
    have c1 := turn_c r a (lF 0 L i) hr (hI.bd (by omega)) hd.1 hd.2
    have hbd := hBb (lF 0 L i)
    rw [drop_step (d := 0) hc, passS] at hV
    have hI2 := inv_step (d := lF 0 L i) hr hI hbd.1 hbd.2
    have hT := inv_turn (d := lF 0 L i) hr hI
    have hsA : stepA r B a (lF 0 L i) = bookA (turnS r a (lF 0 L i)) (B (lF 0 L i)) := rfl
    rw [hsA] at hV hI2
    generalize turnS r a (lF 0 L i) = t at *
    have hdb := hr.deb
    repeat' (first | refine yo ?_ ?_ | refine yw ?_ ?_ | refine yk ?_ ?_ | exact trivial | with_reducible refine wA ?_ ?_ | refine ys ?_ ?_ | refine xs_done ?_ | refine yl ?_ ?_ | refine z1 c1 ?_ | refine z2 c1 ?_ | refine z3 c1 ?_ | refine z4 c1 ?_ | refine z5 c1 ?_ | refine w8 ?_ | refine w9 ?_ | refine w1 ?_ | refine w2 ?_ | refine w3 ?_ | refine w4 ?_ | refine w5 ?_ | refine w6 ?_ | refine w7 ?_ | refine yo0 ?_ ?_ | refine yw0 ?_ ?_ | exact qq | fail)
    refine pop_look mapII false (lF 0 L i) rfl rfl rfl rfl rfl rfl rfl ?_
    rw [hB]
    generalize B (lF 0 L i) = b at *
    repeat' (first | refine yo ?_ ?_ | refine yw ?_ ?_ | refine yk ?_ ?_ | exact trivial | with_reducible refine wA ?_ ?_ | refine ys ?_ ?_ | refine xs_done ?_ | refine yl ?_ ?_ | refine w8 ?_ | refine w9 ?_ | refine w1 ?_ | refine w2 ?_ | refine w3 ?_ | refine w4 ?_ | refine w5 ?_ | refine w6 ?_ | refine w7 ?_ | refine yo0 ?_ ?_ | refine yw0 ?_ ?_ | exact qq | fail)
    rw [w64 (n := t.car - (if t.car < b then t.car else b)) (by split <;> omega) (by split <;> omega), w64 (n := b - (if t.car < b then t.car else b)) (by split <;> omega) (by split <;> omega), w64 (n := t.cur - (b - (if t.car < b then t.car else b))) (by split <;> omega) (by split <;> omega), w64 (n := t.tak + b) (by omega) (by omega)]
    refine pcond (b := decide (0 < b ∧ (bookA t b).cur < -r.deb)) ?_ ?_ ?_
    · refine eqB ?_
      rw [show IntKind.i64.wrap (0 - r.deb) = -r.deb from by rw [w64 (by omega) (by omega)]; omega]
      show _ = decide (0 < b ∧ t.cur - (b - (if t.car < b then t.car else b)) < -r.deb)
      by_cases q1 : 0 < b <;> simp [q1]
    · intro h
      have h := of_decide_eq_true h
      rw [if_pos h] at hV
      repeat' (first | refine yo ?_ ?_ | refine yw ?_ ?_ | refine yk ?_ ?_ | exact trivial | with_reducible refine wA ?_ ?_ | refine ys ?_ ?_ | refine xs_done ?_ | refine yl ?_ ?_ | refine w8 ?_ | refine w9 ?_ | refine w1 ?_ | refine w2 ?_ | refine w3 ?_ | refine w4 ?_ | refine w5 ?_ | refine w6 ?_ | refine w7 ?_ | refine yo0 ?_ ?_ | refine yw0 ?_ ?_ | exact qq | fail)
      refine xdone ?_
      exact kretr (st' := ⟨[(6, .ptr 2 0 0), (7, vb false)], [mRow kI m, rLR r, rAc (bookA t b)]⟩) (can_rowsv [0, 1, 2] (k0_sel hk rfl) rfl (.cons rfl m_eq (.cons rfl rqq (.cons rfl rqq .nil))) tmq) rfl ⟨Nat.zero_lt_one, trivial, trivial⟩ rfl ⟨by rw [← hV]; rfl, by rw [← hV]⟩
    · intro h
      have h := of_decide_eq_false h
      rw [if_neg h] at hV
      repeat' (first | refine yo ?_ ?_ | refine yw ?_ ?_ | refine yk ?_ ?_ | exact trivial | with_reducible refine wA ?_ ?_ | refine ys ?_ ?_ | refine xs_done ?_ | refine yl ?_ ?_ | refine w8 ?_ | refine w9 ?_ | refine w1 ?_ | refine w2 ?_ | refine w3 ?_ | refine w4 ?_ | refine w5 ?_ | refine w6 ?_ | refine w7 ?_ | refine yo0 ?_ ?_ | refine yw0 ?_ ?_ | exact qq | fail)
      rw [show IntKind.i64.wrap ((i : Int) + 1) = ((i + 1 : Nat) : Int) from w64 (by omega) (by omega)]
      exact kloop_next (st' := ⟨[(1, .mref 0), (3, .ptr 1 0 0), (6, .ptr 2 0 0), (8, .ptr 3 0 0), (16, vDay L), (17, vi L.length), (18, vi ((i + 1 : Nat) : Int))], [mRow kI m, rLR r, rAc ⟨0, 0, 0, 0⟩, rAc (bookA t b)]⟩) (L.length - (i + 1)) (can_rowsv [0, 1, 2, 3] (k0_sel hk rfl) rfl (.cons rfl m_eq (.cons rfl rqq (.cons rfl rqq (.cons rfl rqq .nil)))) tmq) (by omega) ⟨i + 1, bookA t b, by omega, hI2, hV, rfl, rfl⟩
  · have hin : i = L.length := by omega
    subst hin
    rw [List.drop_length, passS] at hV
    repeat' (first | refine yo ?_ ?_ | refine yw ?_ ?_ | refine yk ?_ ?_ | exact trivial | with_reducible refine wA ?_ ?_ | refine ys ?_ ?_ | refine xs_done ?_ | refine yl ?_ ?_ | refine w8 ?_ | refine w9 ?_ | refine w1 ?_ | refine w2 ?_ | refine w3 ?_ | refine w4 ?_ | refine w5 ?_ | refine w6 ?_ | refine w7 ?_ | refine yo0 ?_ ?_ | refine yw0 ?_ ?_ | exact qq | fail)
    refine xdone ?_
    exact kretr (st' := ⟨[(6, .ptr 2 0 0), (7, vb true)], [mRow kI m, rLR r, rAc a]⟩) (can_rowsv [0, 1, 2] (k0_sel hk rfl) rfl (.cons rfl m_eq (.cons rfl rqq (.cons rfl rqq .nil))) tmq) rfl ⟨Nat.zero_lt_one, trivial, trivial⟩ rfl ⟨by rw [← hV]; rfl, by rw [← hV]⟩
theorem accF_bd {r : LR} (hr : LOk r) (last : Int) : ∀ k : Nat, 0 ≤ accF r last k ∧ accF r last k ≤ 1000000 * (k + 1)
  | 0 => by have := hr.opn; unfold accF; omega
  | k + 1 => by
    have := accF_bd hr last k
    have := hr.mon
    unfold accF
    split <;> omega
theorem accrued_c (r : LR) (hr : LOk r) (day : Int) (h1 : r.frm ≤ day) (h2 : day ≤ 84005) : PureC G.P 12 [vLR r, vi day] (fun q => q = vi (accS r day)) := by
  have c1 := lvalid_c r hr
  have c2 := within_t h1 h2
  have hf := hr.frm
  have ht := hr.too
  have hm := hr.mon
  have ho := hr.opn
  unfold accS
  obtain ⟨last, hlast⟩ : ∃ x, x = (if r.too < day then r.too else day) := ⟨_, rfl⟩
  have hl3 : r.frm ≤ last := by rw [hlast]; split <;> omega
  have hl4 : last ≤ 84005 := by rw [hlast]; split <;> omega
  have hm0 := m0_bd hr
  have gl := date_ok (d := last) (by omega) hl4
  have gl0 := gl.m0; have gl1 := gl.m1
  have mm := month_mono (a := r.frm) (b := last) (by omega) hl3 hl4
  have c3 := month_c r.frm (by omega) (by omega)
  have c4 := month_c last (by omega) hl4
  refine pure_of (G := G.toPg) (fn := Tryd.f12) Tryd.func12 rfl rfl rfl ?_; intro Γ hk
  repeat' (first | refine yo ?_ ?_ | refine yw ?_ ?_ | refine yk ?_ ?_ | exact trivial | with_reducible refine wA ?_ ?_ | refine ys ?_ ?_ | refine xs_done ?_ | refine yl ?_ ?_ | refine z1 c1 ?_ | refine z2 c1 ?_ | refine z3 c1 ?_ | refine z4 c1 ?_ | refine z5 c1 ?_ | refine z1 c2 ?_ | refine z2 c2 ?_ | refine z3 c2 ?_ | refine z4 c2 ?_ | refine z5 c2 ?_ | refine z1 c3 ?_ | refine z2 c3 ?_ | refine z3 c3 ?_ | refine z4 c3 ?_ | refine z5 c3 ?_ | refine w8 ?_ | refine w9 ?_ | refine w1 ?_ | refine w2 ?_ | refine w3 ?_ | refine w4 ?_ | refine w5 ?_ | refine w6 ?_ | refine w7 ?_ | refine yo0 ?_ ?_ | refine yw0 ?_ ?_ | exact qq | fail)
  rw [← hlast]
  refine pcan (st' := ⟨[(2, .ptr 0 0 0), (5, vi (accF r last 0)), (6, vi last), (7, vi (monthS r.frm + (0 : Nat)))], [rLR r]⟩) (can_rowsv [0] (k0_sel hk rfl) rfl (.cons rfl rqq .nil) (by exact ⟨PEq.refl _, PEq.refl _, PEq.refl _, by rw [show monthS r.frm + ((0 : Nat) : Int) = monthS r.frm by omega]; exact PEq.refl _, trivial⟩)) ?_
  refine ploop (fun q st => ∃ k : Nat, monthS r.frm + k ≤ monthS last + 1 ∧ q = 3000 - k ∧ st = ⟨[(2, .ptr 0 0 0), (5, vi (accF r last k)), (6, vi last), (7, vi (monthS r.frm + k))], [rLR r]⟩) 3000 ⟨0, by omega, rfl, rfl⟩ ?_
  rintro _ _ ⟨k, hk1, rfl, rfl⟩
  have hb := accF_bd hr last k
  repeat' (first | refine yo ?_ ?_ | refine yw ?_ ?_ | refine yk ?_ ?_ | exact trivial | with_reducible refine wA ?_ ?_ | refine ys ?_ ?_ | refine xs_done ?_ | refine yl ?_ ?_ | refine z1 c4 ?_ | refine z2 c4 ?_ | refine z3 c4 ?_ | refine z4 c4 ?_ | refine z5 c4 ?_ | refine w8 ?_ | refine w9 ?_ | refine w1 ?_ | refine w2 ?_ | refine w3 ?_ | refine w4 ?_ | refine w5 ?_ | refine w6 ?_ | refine w7 ?_ | refine yo0 ?_ ?_ | refine yw0 ?_ ?_ | exact qq | fail)
  refine pcond rfl ?_ ?_ <;> intro hc <;> simp at hc
  · have c5 := first_c' (monthS r.frm + k) (by omega) (by omega)
    have c6 := within_c (firstS (monthS r.frm + k)) r.frm last
    have hw1 : IntKind.i64.wrap (monthS r.frm + k + 1) = monthS r.frm + ((k + 1 : Nat) : Int) := by rw [w64 (by omega) (by omega)]; omega
    have e : accF r last (k + 1) = accF r last k + (if r.frm ≤ firstS (monthS r.frm + k) ∧ firstS (monthS r.frm + k) ≤ last then r.mon else 0) := rfl
    repeat' (first | refine yo ?_ ?_ | refine yw ?_ ?_ | refine yk ?_ ?_ | exact trivial | with_reducible refine wA ?_ ?_ | refine ys ?_ ?_ | refine xs_done ?_ | refine yl ?_ ?_ | refine z1 c5 ?_ | refine z2 c5 ?_ | refine z3 c5 ?_ | refine z4 c5 ?_ | refine z5 c5 ?_ | refine z1 c6 ?_ | refine z2 c6 ?_ | refine z3 c6 ?_ | refine z4 c6 ?_ | refine z5 c6 ?_ | refine w8 ?_ | refine w9 ?_ | refine w1 ?_ | refine w2 ?_ | refine w3 ?_ | refine w4 ?_ | refine w5 ?_ | refine w6 ?_ | refine w7 ?_ | refine yo0 ?_ ?_ | refine yw0 ?_ ?_ | exact qq | fail)
    refine pcond (b := decide (r.frm ≤ firstS (monthS r.frm + k) ∧ firstS (monthS r.frm + k) ≤ last)) ?_ ?_ ?_
    · refine eqB ?_
      by_cases q1 : r.frm ≤ firstS (monthS r.frm + k) <;> simp [q1]
    · intro h
      have h := of_decide_eq_true h
      rw [if_pos h] at e
      repeat' (first | refine yo ?_ ?_ | refine yw ?_ ?_ | refine yk ?_ ?_ | exact trivial | with_reducible refine wA ?_ ?_ | refine ys ?_ ?_ | refine xs_done ?_ | refine yl ?_ ?_ | refine w8 ?_ | refine w9 ?_ | refine w1 ?_ | refine w2 ?_ | refine w3 ?_ | refine w4 ?_ | refine w5 ?_ | refine w6 ?_ | refine w7 ?_ | refine yo0 ?_ ?_ | refine yw0 ?_ ?_ | exact qq | fail)
      rw [hw1, show IntKind.i64.wrap (accF r last k + r.mon) = accF r last (k + 1) from by rw [w64 (by omega) (by omega), e]]
      exact kloop_next (st' := ⟨[(2, .ptr 0 0 0), (5, vi (accF r last (k + 1))), (6, vi last), (7, vi (monthS r.frm + ((k + 1 : Nat) : Int)))], [rLR r]⟩) (3000 - (k + 1)) (can_rowsv [0] (k0_sel hk rfl) rfl (by (repeat (refine SelV.cons rfl rqq ?_)); exact SelV.nil) tmq) (by omega) ⟨k + 1, by omega, rfl, rfl⟩
    · intro h
      have h := of_decide_eq_false h
      rw [if_neg h, Int.add_zero] at e
      repeat' (first | refine yo ?_ ?_ | refine yw ?_ ?_ | refine yk ?_ ?_ | exact trivial | with_reducible refine wA ?_ ?_ | refine ys ?_ ?_ | refine xs_done ?_ | refine yl ?_ ?_ | refine w8 ?_ | refine w9 ?_ | refine w1 ?_ | refine w2 ?_ | refine w3 ?_ | refine w4 ?_ | refine w5 ?_ | refine w6 ?_ | refine w7 ?_ | refine yo0 ?_ ?_ | refine yw0 ?_ ?_ | exact qq | fail)
      rw [hw1, ← e]
      exact kloop_next (st' := ⟨[(2, .ptr 0 0 0), (5, vi (accF r last (k + 1))), (6, vi last), (7, vi (monthS r.frm + ((k + 1 : Nat) : Int)))], [rLR r]⟩) (3000 - (k + 1)) (can_rowsv [0] (k0_sel hk rfl) rfl (by (repeat (refine SelV.cons rfl rqq ?_)); exact SelV.nil) tmq) (by omega) ⟨k + 1, by omega, rfl, rfl⟩
  · repeat' (first | refine yo ?_ ?_ | refine yw ?_ ?_ | refine yk ?_ ?_ | exact trivial | with_reducible refine wA ?_ ?_ | refine ys ?_ ?_ | refine xs_done ?_ | refine yl ?_ ?_ | refine w8 ?_ | refine w9 ?_ | refine w1 ?_ | refine w2 ?_ | refine w3 ?_ | refine w4 ?_ | refine w5 ?_ | refine w6 ?_ | refine w7 ?_ | refine yo0 ?_ ?_ | refine yw0 ?_ ?_ | exact qq | fail)
    refine kretv rfl ⟨trivial, trivial⟩ rfl (eqI ?_)
    rw [show (monthS last + 1 - monthS r.frm).toNat = k by omega]
end Go.Proofs.YtpaeomgnmimjoaaDoor
