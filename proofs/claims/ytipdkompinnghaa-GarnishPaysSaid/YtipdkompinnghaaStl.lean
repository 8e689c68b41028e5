/- Settling: plain; garnish.Settle; payrollref31.Settle. -/
import Derived.Test.YtipdkompinnghaaMp0
import Derived.Test.YtipdkompinnghaaGar6
set_option linter.unusedSimpArgs false
set_option linter.unusedVariables false
set_option maxRecDepth 100000
namespace Go.Proofs.Ytipdkompinnghaa
theorem ba_loop (bs : ByteArray) : ∀ k i r, bs.size - i = k → ByteArray.toList.loop bs i r = r.reverse ++ bs.data.toList.drop i := by
  intro k
  induction k with
  | zero =>
    intro i r h
    rw [ByteArray.toList.loop, if_neg (by omega), List.drop_eq_nil_of_le (by simp only [Array.length_toList]; show bs.data.size ≤ i; have : bs.size = bs.data.size := rfl; omega)]
    simp
  | succ k ih =>
    intro i r h
    rw [ByteArray.toList.loop, if_pos (by omega), ih _ _ (by omega)]
    have hi : i < bs.data.toList.length := by simp only [Array.length_toList]; have : bs.size = bs.data.size := rfl; omega
    rw [List.drop_eq_getElem_cons hi]
    simp only [List.reverse_cons, List.append_assoc, List.singleton_append]
    congr 2
    have hi2 : i < bs.data.size := by simpa using hi
    show bs.data[i]! = _
    rw [getElem!_pos bs.data i hi2]; simp
theorem ba_eq {a b : ByteArray} (h : a.toList = b.toList) : a = b := by
  unfold ByteArray.toList at h
  rw [ba_loop _ _ 0 [] rfl, ba_loop _ _ 0 [] rfl] at h
  simp at h
  cases a; cases b
  simp only at h
  rw [h]
theorem ba_beq (a b : ByteArray) : (a.toList == b.toList) = decide (a = b) := by
  by_cases h : a = b
  · subst h; simp
  · rw [decide_eq_false h]
    simpa using fun e => h (ba_eq e)
theorem ids_dist {n : Nat} {g : Nat → Ord} (h : ordsB n g = true) : ∀ i j, i < n → j < n → (g i).id = (g j).id → i = j := fun i j hi hj e => by
  have ha := asc_of h
  by_cases h1 : i < j
  · have := lt_ne (ha i j h1 hj); rw [e] at this; simp at this
  · by_cases h2 : j < i
    · have := lt_ne (ha j i h2 hi); rw [e] at this; simp at this
    · omega
abbrev idF (g : Nat → Ord) : Nat → ByteArray := fun i => (g i).id
abbrev ttF (g : Nat → Ord) : Nat → Int := fun i => (g i).tt
abbrev cdF (e : Nat → Elt) : Nat → ByteArray := fun i => (e i).cd
abbrev amF (e : Nat → Elt) : Nat → Int := fun i => (e i).am
/-- what is taken from an order -/
def tkF (e : Nat → Elt) (m : Nat) (c : ByteArray) : Int := (lastS (cdF e) (amF e) m c).getD 0
def leftO (e : Nat → Elt) (m : Nat) (x : Ord) : Ord := ⟨x.id, x.rk, x.dy, x.am, x.tt - tkF e m x.id⟩
def restS (g : Nat → Ord) (e : Nat → Elt) (m : Nat) : Nat → List Ord
  | 0 => []
  | i + 1 => if (leftO e m (g i)).tt = 0 then restS g e m i else restS g e m i ++ [leftO e m (g i)]
def dupP (m : Nat) (e : Nat → Elt) : Prop := ∃ i j, i < j ∧ j < m ∧ (e i).cd = (e j).cd
def misP (n : Nat) (g : Nat → Ord) (m : Nat) (e : Nat → Elt) : Prop := ∃ t, t < m ∧ ∀ j, j < n → (g j).id ≠ (e t).cd
def badAt (g : Nat → Ord) (e : Nat → Elt) (t j : Nat) : Prop := (g j).id = (e t).cd ∧ ((e t).am < 0 ∨ (g j).tt < (e t).am)
def badP (n : Nat) (g : Nat → Ord) (m : Nat) (e : Nat → Elt) : Prop := ∃ t j, t < m ∧ j < n ∧ badAt g e t j
open Classical in
/-- settling -/
noncomputable def stlS (n : Nat) (g : Nat → Ord) (m : Nat) (e : Nat → Elt) : List Ord × Int :=
  if ordsB n g = false then ([], 1) else if dupP m e then ([], 8) else if misP n g m e then ([], 16) else if badP n g m e then ([], 2) else (restS g e m n, 0)
section
variable {n m : Nat} {g : Nat → Ord} {e : Nat → Elt}
theorem stl1 (h : ordsB n g = false) : stlS n g m e = ([], 1) := if_pos h
theorem stl8 (h : ordsB n g = true) (h2 : dupP m e) : stlS n g m e = ([], 8) := by unfold stlS; rw [if_neg (by simp [h]), if_pos h2]
theorem stl16 (h : ordsB n g = true) (h2 : ¬ dupP m e) (h3 : misP n g m e) : stlS n g m e = ([], 16) := by unfold stlS; rw [if_neg (by simp [h]), if_neg h2, if_pos h3]
theorem stl2 (h : ordsB n g = true) (h2 : ¬ dupP m e) (h3 : ¬ misP n g m e) (h4 : badP n g m e) : stlS n g m e = ([], 2) := by unfold stlS; rw [if_neg (by simp [h]), if_neg h2, if_neg h3, if_pos h4]
theorem stl0 (h : ordsB n g = true) (h2 : ¬ dupP m e) (h3 : ¬ misP n g m e) (h4 : ¬ badP n g m e) : stlS n g m e = (restS g e m n, 0) := by unfold stlS; rw [if_neg (by simp [h]), if_neg h2, if_neg h3, if_neg h4]
theorem rest_len : ∀ i, (restS g e m i).length ≤ i
  | 0 => Nat.le_refl _
  | i + 1 => by
    have := rest_len i
    rw [restS]; split
    · omega
    · rw [List.length_append]; simp; omega
theorem nodup_dist (h : ¬ dupP m e) : ∀ i j, i < m → j < m → cdF e i = cdF e j → i = j := fun i j hi hj he => by
  by_cases h1 : i < j
  · exact absurd ⟨i, j, h1, hj, he⟩ h
  · by_cases h2 : j < i
    · exact absurd ⟨j, i, h2, hi, he.symm⟩ h
    · omega
/-- the dup of a code that is found in the map of those before -/
theorem dup_at {i : Nat} (hi : i < m) (h : (lastS (cdF e) (amF e) i (e i).cd).isSome = true) : dupP m e := by
  obtain ⟨v, hv⟩ := Option.isSome_iff_exists.1 h
  obtain ⟨j, hj, e1, _⟩ := lastS_some hv
  exact ⟨j, i, hj, hi, e1⟩
theorem nodup_of (h : ∀ i, i < m → (lastS (cdF e) (amF e) i (e i).cd).isSome = false) : ¬ dupP m e := fun ⟨i, j, hij, hj, he⟩ => by
  have h1 := h j hj
  have : lastS (cdF e) (amF e) j (e j).cd = none := by cases h2 : lastS (cdF e) (amF e) j (e j).cd <;> simp_all
  exact lastS_none.1 this i hij he
theorem tkF_bd (hd : ¬ dupP m e) (hb : ¬ badP n g m e) {j : Nat} (hj : j < n) (h0 : 0 ≤ (g j).tt) : 0 ≤ tkF e m (g j).id ∧ tkF e m (g j).id ≤ (g j).tt := by
  unfold tkF
  cases h : lastS (cdF e) (amF e) m (g j).id with
  | none => exact ⟨Int.le_refl _, h0⟩
  | some v =>
    obtain ⟨t, ht, e1, e2⟩ := lastS_some h
    have : ¬ badAt g e t j := fun hh => hb ⟨t, j, ht, hj, hh⟩
    have h3 : ¬ ((e t).am < 0 ∨ (g j).tt < (e t).am) := fun hh => this ⟨e1.symm, hh⟩
    have e2 : (e t).am = v := e2
    show 0 ≤ v ∧ v ≤ _
    omega
/-- the other program's totals -/
def stepT (b : Bool) (a t : Int) : Int := if b = true then (if a < 0 ∨ t < a then t else t - a) else t
def outS (g : Nat → Ord) (e : Nat → Elt) (j : Nat) : Nat → Int
  | 0 => (g j).tt
  | i + 1 => stepT (decide ((g j).id = (e i).cd)) (e i).am (outS g e j i)
theorem out_bd {j : Nat} (h0 : 0 ≤ (g j).tt) : ∀ i, 0 ≤ outS g e j i ∧ outS g e j i ≤ (g j).tt
  | 0 => ⟨h0, Int.le_refl _⟩
  | i + 1 => by
    have := out_bd h0 i
    rw [outS, stepT]; split
    · split <;> omega
    · exact this
theorem out_fresh {j : Nat} : ∀ i, (∀ t, t < i → (g j).id ≠ (e t).cd) → outS g e j i = (g j).tt
  | 0, _ => rfl
  | i + 1, h => by
    rw [outS, stepT, if_neg (by simpa using h i (by omega))]
    exact out_fresh i fun t ht => h t (by omega)
theorem out_at (hd : ¬ dupP m e) {i j : Nat} (hi : i < m) (h : (g j).id = (e i).cd) : outS g e j i = (g j).tt := out_fresh i fun t ht he => hd ⟨t, i, ht, hi, by rw [← he, h]⟩
theorem out_ok (hd : ¬ dupP m e) (hb : ¬ badP n g m e) {j : Nat} (hj : j < n) : ∀ i, i ≤ m → outS g e j i = (g j).tt - tkF e i (g j).id
  | 0, _ => by show (g j).tt = (g j).tt - 0; omega
  | i + 1, h => by
    rw [outS, stepT]
    unfold tkF
    rw [lastS]
    by_cases hc : (g j).id = (e i).cd
    · have h3 : ¬ ((e i).am < 0 ∨ (g j).tt < (e i).am) := fun hh => hb ⟨i, j, by omega, hj, hc, hh⟩
      rw [if_pos (by simpa using hc), if_pos hc.symm, out_at hd (by omega) hc, if_neg h3]; rfl
    · rw [if_neg (by simpa using hc), if_neg (fun h => hc h.symm), out_ok hd hb hj i (by omega)]; rfl
end
end Go.Proofs.Ytipdkompinnghaa
namespace Go.Proofs.Ytipdkompinnghaa
abbrev vEl (m : Nat) (e : Nat → Elt) : PV := .vsl m 2 (tF cE e)
abbrev vSt (r : List Ord × Int) : PV := .tup 2 (nthP [vOs r.1.length (lF dO r.1), vi r.2])
def mapSI : MapT G.P 75 kS := ⟨9, 3, _, Try.underlying75, Try.underlying9, fun _ => trivial, kS_inj, Try.zeroValue3⟩
set_option maxHeartbeats 2000000 in
theorem settle_c (n : Nat) (g : Nat → Ord) (m : Nat) (e : Nat → Elt) (hs : ∀ i, i < n → (g i).id.size ≤ 9223372036854775807) (hm : m ≤ 9223372036854775807) : PureC G.P 39 [vOs n g, vEl m e] (fun r => r = vSt (stlS n g m e)) := by
  have nilR : ∀ c : Int, stlS n g m e = ([], c) → ∀ {mem : List Row}, ArgsOk mem [] [.val (.slice none 0 0), vi c] [vOs 0 (lF dO []), vi c] := fun c _ _ => ⟨argNil, argVal, trivial⟩
  refine pure_of (G := G.toPg) (fn := Try.f39) Try.func39 rfl rfl rfl ?_; intro Γ hk
  repeat' (first | refine xo 4000 rfl ?_ ?_ | refine xw 4000 rfl ?_ ?_ | refine xk 4000 rfl ?_ ?_ | exact trivial | ((with_reducible (show AllP (_ :: _))); refine And.intro ?_ ?_) | refine xs rfl ?_ ?_ | refine xs_done ?_ | refine pop_callv rfl rfl rfl rfl rfl (validOrders_c _ _ hs) rfl rfl rfl ?_ | refine xs_call rfl rfl rfl rfl rfl rfl (validOrders_c _ _ hs) rfl rfl rfl ?_ | refine xs_one (ch := []) rfl rfl rfl (pst_callv rfl rfl rfl rfl rfl (validOrders_c _ _ hs) rfl rfl rfl ?_) | refine pop_callgv rfl rfl rfl rfl rfl rfl (fun _ => validOrders_c _ _ hs) (by first | exact fun h => ⟨h, trivial⟩ | exact fun _ => trivial | exact fun h => ⟨h, h, trivial⟩) rfl rfl rfl ?_ | refine xs_one (ch := []) rfl rfl rfl (pst_callgv rfl rfl rfl rfl rfl rfl (fun _ => validOrders_c _ _ hs) (by first | exact fun h => ⟨h, trivial⟩ | exact fun _ => trivial | exact fun h => ⟨h, h, trivial⟩) rfl rfl rfl ?_) | refine pcond_t rfl ?_ | refine pcond_f rfl ?_ | refine kround_exit ?_ | refine kround_ret ?_ | refine kround_next ?_ | refine kloop_ret ?_ | refine kloop_exit ?_ | refine kcut_ret ?_ | refine kcut_exit ?_ | refine xo0 4000 rfl ?_ ?_ | refine xw0 4000 rfl ?_ ?_ | exact qq | fail)
  refine pcond rfl ?_ ?_ <;> intro hc
  · have h1 : ordsB n g = false := by simpa using hc
    repeat' (first | refine xo 4000 rfl ?_ ?_ | refine xw 4000 rfl ?_ ?_ | refine xk 4000 rfl ?_ ?_ | exact trivial | ((with_reducible (show AllP (_ :: _))); refine And.intro ?_ ?_) | refine xs rfl ?_ ?_ | refine xs_done ?_ | refine pcond_t rfl ?_ | refine pcond_f rfl ?_ | refine kround_exit ?_ | refine kround_ret ?_ | refine kround_next ?_ | refine kloop_ret ?_ | refine kloop_exit ?_ | refine kcut_ret ?_ | refine kcut_exit ?_ | refine xo0 4000 rfl ?_ ?_ | refine xw0 4000 rfl ?_ ?_ | exact qq | fail)
    refine xdone ?_
    exact kret [] rfl ⟨trivial, trivial, trivial⟩ (qs := [vOs 0 (lF dO []), vi 1]) ⟨argNil, argVal, trivial⟩ (by rw [stl1 h1]; rfl)
  · have h1 : ordsB n g = true := by simpa using hc
    have hO := ords_ok h1
    have hn16 := hO.n16
    have hd := ids_dist h1
    repeat' (first | refine xo 4000 rfl ?_ ?_ | refine xw 4000 rfl ?_ ?_ | refine xk 4000 rfl ?_ ?_ | exact trivial | ((with_reducible (show AllP (_ :: _))); refine And.intro ?_ ?_) | refine xs rfl ?_ ?_ | refine xs_done ?_ | refine pcond_t rfl ?_ | refine pcond_f rfl ?_ | refine kround_exit ?_ | refine kround_ret ?_ | refine kround_next ?_ | refine kloop_ret ?_ | refine kloop_exit ?_ | refine kcut_ret ?_ | refine kcut_exit ?_ | refine xo0 4000 rfl ?_ ?_ | refine xw0 4000 rfl ?_ ?_ | exact qq | fail)
    refine pop_mkmap kS rfl rfl rfl rfl rfl ?_
    repeat' (first | refine xo 4000 rfl ?_ ?_ | refine xw 4000 rfl ?_ ?_ | refine xk 4000 rfl ?_ ?_ | exact trivial | ((with_reducible (show AllP (_ :: _))); refine And.intro ?_ ?_) | refine xs rfl ?_ ?_ | refine xs_done ?_ | refine pcond_t rfl ?_ | refine pcond_f rfl ?_ | refine kround_exit ?_ | refine kround_ret ?_ | refine kround_next ?_ | refine kloop_ret ?_ | refine kloop_exit ?_ | refine kcut_ret ?_ | refine kcut_exit ?_ | refine xo0 4000 rfl ?_ ?_ | refine xw0 4000 rfl ?_ ?_ | exact qq | fail)
    refine pcan (st' := ⟨[(0, vOs n g), (1, vEl m e), (6, .mref 0), (27, vOs n g), (28, vi n), (29, vi ((0 : Nat) : Int))], [mRow kS []]⟩) (can_rowsv [0] (k0_sel hk rfl) rfl (.cons rfl m_eq .nil) tmq) ?_
    refine ploop (fun q st => ∃ (i : Nat) (M : List (ByteArray × Int)), i ≤ n ∧ MapIs M (idF g) (ttF g) i ∧ q = n - i ∧ st = ⟨[(0, vOs n g), (1, vEl m e), (6, .mref 0), (27, vOs n g), (28, vi n), (29, vi i)], [mRow kS M]⟩) n ⟨0, [], by omega, .start _ _, rfl, rfl⟩ ?_
    rintro _ _ ⟨i, M, hi, hM, rfl, rfl⟩
    repeat' (first | refine xo 4000 rfl ?_ ?_ | refine xw 4000 rfl ?_ ?_ | refine xk 4000 rfl ?_ ?_ | exact trivial | ((with_reducible (show AllP (_ :: _))); refine And.intro ?_ ?_) | refine xs rfl ?_ ?_ | refine xs_done ?_ | refine pcond_t rfl ?_ | refine pcond_f rfl ?_ | refine kround_exit ?_ | refine kround_ret ?_ | refine kround_next ?_ | refine kloop_ret ?_ | refine kloop_exit ?_ | refine kcut_ret ?_ | refine kcut_exit ?_ | refine xo0 4000 rfl ?_ ?_ | refine xw0 4000 rfl ?_ ?_ | exact qq | fail)
    refine pcond rfl ?_ ?_ <;> intro hc2 <;> simp at hc2
    · repeat' (first | refine xo 4000 rfl ?_ ?_ | refine xw 4000 rfl ?_ ?_ | refine xk 4000 rfl ?_ ?_ | exact trivial | ((with_reducible (show AllP (_ :: _))); refine And.intro ?_ ?_) | refine xs rfl ?_ ?_ | refine xs_done ?_ | refine pcond_t rfl ?_ | refine pcond_f rfl ?_ | refine kround_exit ?_ | refine kround_ret ?_ | refine kround_next ?_ | refine kloop_ret ?_ | refine kloop_exit ?_ | refine kcut_ret ?_ | refine kcut_exit ?_ | refine xo0 4000 rfl ?_ ?_ | refine xw0 4000 rfl ?_ ?_ | exact qq | fail)
      refine pop_mset mapSI (g i).id (g i).tt rfl rfl rfl rfl rfl rfl rfl (by rw [hk]; exact Nat.zero_le _) rfl rfl ?_
      repeat' (first | refine xo 4000 rfl ?_ ?_ | refine xw 4000 rfl ?_ ?_ | refine xk 4000 rfl ?_ ?_ | exact trivial | ((with_reducible (show AllP (_ :: _))); refine And.intro ?_ ?_) | refine xs rfl ?_ ?_ | refine xs_done ?_ | refine pcond_t rfl ?_ | refine pcond_f rfl ?_ | refine kround_exit ?_ | refine kround_ret ?_ | refine kround_next ?_ | refine kloop_ret ?_ | refine kloop_exit ?_ | refine kcut_ret ?_ | refine kcut_exit ?_ | refine xo0 4000 rfl ?_ ?_ | refine xw0 4000 rfl ?_ ?_ | exact qq | fail)
      rw [show IntKind.i64.wrap ((i : Int) + 1) = ((i + 1 : Nat) : Int) from w64 (by omega) (by omega)]
      exact kloop_next (st' := ⟨[(0, vOs n g), (1, vEl m e), (6, .mref 0), (27, vOs n g), (28, vi n), (29, vi ((i + 1 : Nat) : Int))], [mRow kS (mset M (g i).id (g i).tt)]⟩) (n - (i + 1)) (can_rowsv [0] (k0_sel hk rfl) rfl (.cons rfl m_eq .nil) tmq) (by omega) ⟨i + 1, _, by omega, hM.step, rfl, rfl⟩
    have hin : i = n := by omega
    subst hin
    clear hi hc2
    repeat' (first | refine xo 4000 rfl ?_ ?_ | refine xw 4000 rfl ?_ ?_ | refine xk 4000 rfl ?_ ?_ | exact trivial | ((with_reducible (show AllP (_ :: _))); refine And.intro ?_ ?_) | refine xs rfl ?_ ?_ | refine xs_done ?_ | refine pcond_t rfl ?_ | refine pcond_f rfl ?_ | refine kround_exit ?_ | refine kround_ret ?_ | refine kround_next ?_ | refine kloop_ret ?_ | refine kloop_exit ?_ | refine kcut_ret ?_ | refine kcut_exit ?_ | refine xo0 4000 rfl ?_ ?_ | refine xw0 4000 rfl ?_ ?_ | exact qq | fail)
    refine pop_mkmap kS rfl rfl rfl rfl rfl ?_
    repeat' (first | refine xo 4000 rfl ?_ ?_ | refine xw 4000 rfl ?_ ?_ | refine xk 4000 rfl ?_ ?_ | exact trivial | ((with_reducible (show AllP (_ :: _))); refine And.intro ?_ ?_) | refine xs rfl ?_ ?_ | refine xs_done ?_ | refine pcond_t rfl ?_ | refine pcond_f rfl ?_ | refine kround_exit ?_ | refine kround_ret ?_ | refine kround_next ?_ | refine kloop_ret ?_ | refine kloop_exit ?_ | refine kcut_ret ?_ | refine kcut_exit ?_ | refine xo0 4000 rfl ?_ ?_ | refine xw0 4000 rfl ?_ ?_ | exact qq | fail)
    refine pcan (st' := ⟨[(0, vOs i g), (1, vEl m e), (6, .mref 0), (9, .mref 1), (40, vEl m e), (41, vi m), (42, vi ((0 : Nat) : Int))], [mRow kS M, mRow kS []]⟩) (can_rowsv [0, 1] (k0_sel hk rfl) rfl (.cons rfl m_eq (.cons rfl m_eq .nil)) tmq) ?_
    refine ploop (fun q st => ∃ (t : Nat) (L : List (ByteArray × Int)), t ≤ m ∧ MapIs L (cdF e) (amF e) t ∧ (∀ j, j < t → (lastS (cdF e) (amF e) j (e j).cd).isSome = false) ∧ q = m - t ∧ st = ⟨[(0, vOs i g), (1, vEl m e), (6, .mref 0), (9, .mref 1), (40, vEl m e), (41, vi m), (42, vi t)], [mRow kS M, mRow kS L]⟩) m ⟨0, [], by omega, .start _ _, fun j hj => by omega, rfl, rfl⟩ ?_
    rintro _ _ ⟨t, L, ht, hL, hfr, rfl, rfl⟩
    repeat' (first | refine xo 4000 rfl ?_ ?_ | refine xw 4000 rfl ?_ ?_ | refine xk 4000 rfl ?_ ?_ | exact trivial | ((with_reducible (show AllP (_ :: _))); refine And.intro ?_ ?_) | refine xs rfl ?_ ?_ | refine xs_done ?_ | refine pcond_t rfl ?_ | refine pcond_f rfl ?_ | refine kround_exit ?_ | refine kround_ret ?_ | refine kround_next ?_ | refine kloop_ret ?_ | refine kloop_exit ?_ | refine kcut_ret ?_ | refine kcut_exit ?_ | refine xo0 4000 rfl ?_ ?_ | refine xw0 4000 rfl ?_ ?_ | exact qq | fail)
    refine pcond rfl ?_ ?_ <;> intro hc3 <;> simp at hc3
    · repeat' (first | refine xo 4000 rfl ?_ ?_ | refine xw 4000 rfl ?_ ?_ | refine xk 4000 rfl ?_ ?_ | exact trivial | ((with_reducible (show AllP (_ :: _))); refine And.intro ?_ ?_) | refine xs rfl ?_ ?_ | refine xs_done ?_ | refine pcond_t rfl ?_ | refine pcond_f rfl ?_ | refine kround_exit ?_ | refine kround_ret ?_ | refine kround_next ?_ | refine kloop_ret ?_ | refine kloop_exit ?_ | refine kcut_ret ?_ | refine kcut_exit ?_ | refine xo0 4000 rfl ?_ ?_ | refine xw0 4000 rfl ?_ ?_ | exact qq | fail)
      refine pop_look mapSI true (e t).cd rfl rfl rfl rfl rfl rfl rfl ?_
      rw [hL]
      repeat' (first | refine xo 4000 rfl ?_ ?_ | refine xw 4000 rfl ?_ ?_ | refine xk 4000 rfl ?_ ?_ | exact trivial | ((with_reducible (show AllP (_ :: _))); refine And.intro ?_ ?_) | refine xs rfl ?_ ?_ | refine xs_done ?_ | refine pcond_t rfl ?_ | refine pcond_f rfl ?_ | refine kround_exit ?_ | refine kround_ret ?_ | refine kround_next ?_ | refine kloop_ret ?_ | refine kloop_exit ?_ | refine kcut_ret ?_ | refine kcut_exit ?_ | refine xo0 4000 rfl ?_ ?_ | refine xw0 4000 rfl ?_ ?_ | exact qq | fail)
      refine pcond rfl ?_ ?_ <;> intro hc4
      · have h8 := dup_at hc3 hc4
        repeat' (first | refine xo 4000 rfl ?_ ?_ | refine xw 4000 rfl ?_ ?_ | refine xk 4000 rfl ?_ ?_ | exact trivial | ((with_reducible (show AllP (_ :: _))); refine And.intro ?_ ?_) | refine xs rfl ?_ ?_ | refine xs_done ?_ | refine pcond_t rfl ?_ | refine pcond_f rfl ?_ | refine kround_exit ?_ | refine kround_ret ?_ | refine kround_next ?_ | refine kloop_ret ?_ | refine kloop_exit ?_ | refine kcut_ret ?_ | refine kcut_exit ?_ | refine xo0 4000 rfl ?_ ?_ | refine xw0 4000 rfl ?_ ?_ | exact qq | fail)
        refine xdone ?_
        exact kret [] rfl ⟨trivial, trivial, trivial⟩ (qs := [vOs 0 (lF dO []), vi 8]) ⟨argNil, argVal, trivial⟩ (by rw [stl8 h1 h8]; rfl)
      · repeat' (first | refine xo 4000 rfl ?_ ?_ | refine xw 4000 rfl ?_ ?_ | refine xk 4000 rfl ?_ ?_ | exact trivial | ((with_reducible (show AllP (_ :: _))); refine And.intro ?_ ?_) | refine xs rfl ?_ ?_ | refine xs_done ?_ | refine pcond_t rfl ?_ | refine pcond_f rfl ?_ | refine kround_exit ?_ | refine kround_ret ?_ | refine kround_next ?_ | refine kloop_ret ?_ | refine kloop_exit ?_ | refine kcut_ret ?_ | refine kcut_exit ?_ | refine xo0 4000 rfl ?_ ?_ | refine xw0 4000 rfl ?_ ?_ | exact qq | fail)
        refine pop_mset mapSI (e t).cd (e t).am rfl rfl rfl rfl rfl rfl rfl (by rw [hk]; exact Nat.zero_le _) rfl rfl ?_
        repeat' (first | refine xo 4000 rfl ?_ ?_ | refine xw 4000 rfl ?_ ?_ | refine xk 4000 rfl ?_ ?_ | exact trivial | ((with_reducible (show AllP (_ :: _))); refine And.intro ?_ ?_) | refine xs rfl ?_ ?_ | refine xs_done ?_ | refine pcond_t rfl ?_ | refine pcond_f rfl ?_ | refine kround_exit ?_ | refine kround_ret ?_ | refine kround_next ?_ | refine kloop_ret ?_ | refine kloop_exit ?_ | refine kcut_ret ?_ | refine kcut_exit ?_ | refine xo0 4000 rfl ?_ ?_ | refine xw0 4000 rfl ?_ ?_ | exact qq | fail)
        rw [show IntKind.i64.wrap ((t : Int) + 1) = ((t + 1 : Nat) : Int) from w64 (by omega) (by omega)]
        exact kloop_next (st' := ⟨[(0, vOs i g), (1, vEl m e), (6, .mref 0), (9, .mref 1), (40, vEl m e), (41, vi m), (42, vi ((t + 1 : Nat) : Int))], [mRow kS M, mRow kS (mset L (e t).cd (e t).am)]⟩) (m - (t + 1)) (can_rowsv [0, 1] (k0_sel hk rfl) rfl (.cons rfl m_eq (.cons rfl m_eq .nil)) tmq) (by omega) ⟨t + 1, _, by omega, hL.step, fun j hj => by
          by_cases e1 : j = t
          · subst e1; exact hc4
          · exact hfr j (by omega), rfl, rfl⟩
    have htm : t = m := by omega
    subst htm
    clear ht hc3
    have hnd := nodup_of hfr
    repeat' (first | refine xo 4000 rfl ?_ ?_ | refine xw 4000 rfl ?_ ?_ | refine xk 4000 rfl ?_ ?_ | exact trivial | ((with_reducible (show AllP (_ :: _))); refine And.intro ?_ ?_) | refine xs rfl ?_ ?_ | refine xs_done ?_ | refine pcond_t rfl ?_ | refine pcond_f rfl ?_ | refine kround_exit ?_ | refine kround_ret ?_ | refine kround_next ?_ | refine kloop_ret ?_ | refine kloop_exit ?_ | refine kcut_ret ?_ | refine kcut_exit ?_ | refine xo0 4000 rfl ?_ ?_ | refine xw0 4000 rfl ?_ ?_ | exact qq | fail)
    refine pcan (st' := ⟨[(0, vOs i g), (1, vEl t e), (6, .mref 0), (9, .mref 1), (60, vEl t e), (61, vi t), (62, vi ((0 : Nat) : Int))], [mRow kS M, mRow kS L]⟩) (can_rowsv [0, 1] (k0_sel hk rfl) rfl (.cons rfl m_eq (.cons rfl m_eq .nil)) tmq) ?_
    refine ploop (fun q st => ∃ (a : Nat), a ≤ t ∧ (∀ b, b < a → ∃ j, j < i ∧ (g j).id = (e b).cd) ∧ q = t - a ∧ st = ⟨[(0, vOs i g), (1, vEl t e), (6, .mref 0), (9, .mref 1), (60, vEl t e), (61, vi t), (62, vi a)], [mRow kS M, mRow kS L]⟩) t ⟨0, by omega, fun b hb => by omega, rfl, rfl⟩ ?_
    rintro _ _ ⟨a, ha, hal, rfl, rfl⟩
    repeat' (first | refine xo 4000 rfl ?_ ?_ | refine xw 4000 rfl ?_ ?_ | refine xk 4000 rfl ?_ ?_ | exact trivial | ((with_reducible (show AllP (_ :: _))); refine And.intro ?_ ?_) | refine xs rfl ?_ ?_ | refine xs_done ?_ | refine pcond_t rfl ?_ | refine pcond_f rfl ?_ | refine kround_exit ?_ | refine kround_ret ?_ | refine kround_next ?_ | refine kloop_ret ?_ | refine kloop_exit ?_ | refine kcut_ret ?_ | refine kcut_exit ?_ | refine xo0 4000 rfl ?_ ?_ | refine xw0 4000 rfl ?_ ?_ | exact qq | fail)
    refine pcond rfl ?_ ?_ <;> intro hc3 <;> simp at hc3
    · repeat' (first | refine xo 4000 rfl ?_ ?_ | refine xw 4000 rfl ?_ ?_ | refine xk 4000 rfl ?_ ?_ | exact trivial | ((with_reducible (show AllP (_ :: _))); refine And.intro ?_ ?_) | refine xs rfl ?_ ?_ | refine xs_done ?_ | refine pcond_t rfl ?_ | refine pcond_f rfl ?_ | refine kround_exit ?_ | refine kround_ret ?_ | refine kround_next ?_ | refine kloop_ret ?_ | refine kloop_exit ?_ | refine kcut_ret ?_ | refine kcut_exit ?_ | refine xo0 4000 rfl ?_ ?_ | refine xw0 4000 rfl ?_ ?_ | exact qq | fail)
      refine pop_look mapSI true (e a).cd rfl rfl rfl rfl rfl rfl rfl ?_
      rw [hM]
      repeat' (first | refine xo 4000 rfl ?_ ?_ | refine xw 4000 rfl ?_ ?_ | refine xk 4000 rfl ?_ ?_ | exact trivial | ((with_reducible (show AllP (_ :: _))); refine And.intro ?_ ?_) | refine xs rfl ?_ ?_ | refine xs_done ?_ | refine pcond_t rfl ?_ | refine pcond_f rfl ?_ | refine kround_exit ?_ | refine kround_ret ?_ | refine kround_next ?_ | refine kloop_ret ?_ | refine kloop_exit ?_ | refine kcut_ret ?_ | refine kcut_exit ?_ | refine xo0 4000 rfl ?_ ?_ | refine xw0 4000 rfl ?_ ?_ | exact qq | fail)
      refine pcond rfl ?_ ?_ <;> intro hc4 <;> simp at hc4
      · have h16 : misP i g t e := ⟨a, hc3, fun j hj => lastS_none.1 hc4 j hj⟩
        repeat' (first | refine xo 4000 rfl ?_ ?_ | refine xw 4000 rfl ?_ ?_ | refine xk 4000 rfl ?_ ?_ | exact trivial | ((with_reducible (show AllP (_ :: _))); refine And.intro ?_ ?_) | refine xs rfl ?_ ?_ | refine xs_done ?_ | refine pcond_t rfl ?_ | refine pcond_f rfl ?_ | refine kround_exit ?_ | refine kround_ret ?_ | refine kround_next ?_ | refine kloop_ret ?_ | refine kloop_exit ?_ | refine kcut_ret ?_ | refine kcut_exit ?_ | refine xo0 4000 rfl ?_ ?_ | refine xw0 4000 rfl ?_ ?_ | exact qq | fail)
        refine xdone ?_
        exact kret [] rfl ⟨trivial, trivial, trivial⟩ (qs := [vOs 0 (lF dO []), vi 16]) ⟨argNil, argVal, trivial⟩ (by rw [stl16 h1 hnd h16]; rfl)
      · obtain ⟨v, hv⟩ := Option.isSome_iff_exists.1 hc4
        obtain ⟨j, hj, e1, e2⟩ := lastS_some hv
        repeat' (first | refine xo 4000 rfl ?_ ?_ | refine xw 4000 rfl ?_ ?_ | refine xk 4000 rfl ?_ ?_ | exact trivial | ((with_reducible (show AllP (_ :: _))); refine And.intro ?_ ?_) | refine xs rfl ?_ ?_ | refine xs_done ?_ | refine pcond_t rfl ?_ | refine pcond_f rfl ?_ | refine kround_exit ?_ | refine kround_ret ?_ | refine kround_next ?_ | refine kloop_ret ?_ | refine kloop_exit ?_ | refine kcut_ret ?_ | refine kcut_exit ?_ | refine xo0 4000 rfl ?_ ?_ | refine xw0 4000 rfl ?_ ?_ | exact qq | fail)
        rw [show IntKind.i64.wrap ((a : Int) + 1) = ((a + 1 : Nat) : Int) from w64 (by omega) (by omega)]
        exact kloop_next (st' := ⟨[(0, vOs i g), (1, vEl t e), (6, .mref 0), (9, .mref 1), (60, vEl t e), (61, vi t), (62, vi ((a + 1 : Nat) : Int))], [mRow kS M, mRow kS L]⟩) (t - (a + 1)) (can_rowsv [0, 1] (k0_sel hk rfl) rfl (.cons rfl m_eq (.cons rfl m_eq .nil)) tmq) (by omega) ⟨a + 1, by omega, fun b hb => by
          by_cases e3 : b = a
          · subst e3; exact ⟨j, hj, e1⟩
          · exact hal b (by omega), rfl, rfl⟩
    have hat : a = t := by omega
    subst hat
    clear ha hc3
    have hnm : ¬ misP i g a e := fun ⟨b, hb, h⟩ => by obtain ⟨j, hj, e1⟩ := hal b hb; exact h j hj e1
    repeat' (first | refine xo 4000 rfl ?_ ?_ | refine xw 4000 rfl ?_ ?_ | refine xk 4000 rfl ?_ ?_ | exact trivial | ((with_reducible (show AllP (_ :: _))); refine And.intro ?_ ?_) | refine xs rfl ?_ ?_ | refine xs_done ?_ | refine pcond_t rfl ?_ | refine pcond_f rfl ?_ | refine kround_exit ?_ | refine kround_ret ?_ | refine kround_next ?_ | refine kloop_ret ?_ | refine kloop_exit ?_ | refine kcut_ret ?_ | refine kcut_exit ?_ | refine xo0 4000 rfl ?_ ?_ | refine xw0 4000 rfl ?_ ?_ | exact qq | fail)
    refine pcan (st' := ⟨[(0, vOs i g), (6, .mref 0), (9, .mref 1), (76, vEl a e), (77, vi a), (78, vi ((0 : Nat) : Int))], [mRow kS M, mRow kS L]⟩) (can_rowsv [0, 1] (k0_sel hk rfl) rfl (.cons rfl m_eq (.cons rfl m_eq .nil)) tmq) ?_
    refine ploop (fun q st => ∃ (t : Nat), t ≤ a ∧ (∀ b j, b < t → j < i → ¬ badAt g e b j) ∧ q = a - t ∧ st = ⟨[(0, vOs i g), (6, .mref 0), (9, .mref 1), (76, vEl a e), (77, vi a), (78, vi t)], [mRow kS M, mRow kS L]⟩) a ⟨0, by omega, fun b j hb => by omega, rfl, rfl⟩ ?_
    rintro _ _ ⟨t, ht, htl, rfl, rfl⟩
    repeat' (first | refine xo 4000 rfl ?_ ?_ | refine xw 4000 rfl ?_ ?_ | refine xk 4000 rfl ?_ ?_ | exact trivial | ((with_reducible (show AllP (_ :: _))); refine And.intro ?_ ?_) | refine xs rfl ?_ ?_ | refine xs_done ?_ | refine pcond_t rfl ?_ | refine pcond_f rfl ?_ | refine kround_exit ?_ | refine kround_ret ?_ | refine kround_next ?_ | refine kloop_ret ?_ | refine kloop_exit ?_ | refine kcut_ret ?_ | refine kcut_exit ?_ | refine xo0 4000 rfl ?_ ?_ | refine xw0 4000 rfl ?_ ?_ | exact qq | fail)
    refine pcond rfl ?_ ?_ <;> intro hc3 <;> simp at hc3
    · obtain ⟨j, hj, hje⟩ := hal t hc3
      have hlk : (mget M (e t).cd).getD 0 = (g j).tt := by rw [hM, ← hje, lastS_at (kf := idF g) hd (Nat.le_refl _) hj]; rfl
      repeat' (first | refine xo 4000 rfl ?_ ?_ | refine xw 4000 rfl ?_ ?_ | refine xk 4000 rfl ?_ ?_ | exact trivial | ((with_reducible (show AllP (_ :: _))); refine And.intro ?_ ?_) | refine xs rfl ?_ ?_ | refine xs_done ?_ | refine pcond_t rfl ?_ | refine pcond_f rfl ?_ | refine kround_exit ?_ | refine kround_ret ?_ | refine kround_next ?_ | refine kloop_ret ?_ | refine kloop_exit ?_ | refine kcut_ret ?_ | refine kcut_exit ?_ | refine xo0 4000 rfl ?_ ?_ | refine xw0 4000 rfl ?_ ?_ | exact qq | fail)
      refine pop_lookg mapSI (e t).cd rfl rfl rfl rfl rfl rfl (fun h => ⟨h, trivial⟩) rfl (fun h => ⟨h, trivial⟩) rfl ?_
      rw [hlk]
      repeat' (first | refine xo 4000 rfl ?_ ?_ | refine xw 4000 rfl ?_ ?_ | refine xk 4000 rfl ?_ ?_ | exact trivial | ((with_reducible (show AllP (_ :: _))); refine And.intro ?_ ?_) | refine xs rfl ?_ ?_ | refine xs_done ?_ | refine pcond_t rfl ?_ | refine pcond_f rfl ?_ | refine kround_exit ?_ | refine kround_ret ?_ | refine kround_next ?_ | refine kloop_ret ?_ | refine kloop_exit ?_ | refine kcut_ret ?_ | refine kcut_exit ?_ | refine xo0 4000 rfl ?_ ?_ | refine xw0 4000 rfl ?_ ?_ | exact qq | fail)
      refine pcond (b := decide ((e t).am < 0 ∨ (g j).tt < (e t).am)) ?_ ?_ ?_
      · refine eqB ?_
        by_cases e1 : (e t).am < 0 <;> by_cases e2 : (g j).tt < (e t).am <;> simp [e1, e2]
      · intro hc4
        have h2 : badP i g a e := ⟨t, j, hc3, hj, hje, by simpa using hc4⟩
        repeat' (first | refine xo 4000 rfl ?_ ?_ | refine xw 4000 rfl ?_ ?_ | refine xk 4000 rfl ?_ ?_ | exact trivial | ((with_reducible (show AllP (_ :: _))); refine And.intro ?_ ?_) | refine xs rfl ?_ ?_ | refine xs_done ?_ | refine pcond_t rfl ?_ | refine pcond_f rfl ?_ | refine kround_exit ?_ | refine kround_ret ?_ | refine kround_next ?_ | refine kloop_ret ?_ | refine kloop_exit ?_ | refine kcut_ret ?_ | refine kcut_exit ?_ | refine xo0 4000 rfl ?_ ?_ | refine xw0 4000 rfl ?_ ?_ | exact qq | fail)
        refine xdone ?_
        exact kret [] rfl ⟨trivial, trivial, trivial⟩ (qs := [vOs 0 (lF dO []), vi 2]) ⟨argNil, argVal, trivial⟩ (by rw [stl2 h1 hnd hnm h2]; rfl)
      · intro hc4
        have hc4 : ¬ ((e t).am < 0 ∨ (g j).tt < (e t).am) := by simpa using hc4
        repeat' (first | refine xo 4000 rfl ?_ ?_ | refine xw 4000 rfl ?_ ?_ | refine xk 4000 rfl ?_ ?_ | exact trivial | ((with_reducible (show AllP (_ :: _))); refine And.intro ?_ ?_) | refine xs rfl ?_ ?_ | refine xs_done ?_ | refine pcond_t rfl ?_ | refine pcond_f rfl ?_ | refine kround_exit ?_ | refine kround_ret ?_ | refine kround_next ?_ | refine kloop_ret ?_ | refine kloop_exit ?_ | refine kcut_ret ?_ | refine kcut_exit ?_ | refine xo0 4000 rfl ?_ ?_ | refine xw0 4000 rfl ?_ ?_ | exact qq | fail)
        rw [show IntKind.i64.wrap ((t : Int) + 1) = ((t + 1 : Nat) : Int) from w64 (by omega) (by omega)]
        exact kloop_next (st' := ⟨[(0, vOs i g), (6, .mref 0), (9, .mref 1), (76, vEl a e), (77, vi a), (78, vi ((t + 1 : Nat) : Int))], [mRow kS M, mRow kS L]⟩) (a - (t + 1)) (can_rowsv [0, 1] (k0_sel hk rfl) rfl (.cons rfl m_eq (.cons rfl m_eq .nil)) tmq) (by omega) ⟨t + 1, by omega, fun b j' hb hj' => by
          by_cases e3 : b = t
          · subst e3
            rintro ⟨q1, q2⟩
            have : j' = j := hd j' j hj' hj (by rw [q1, hje])
            subst this
            exact hc4 q2
          · exact htl b j' (by omega) hj', rfl, rfl⟩
    have hta : t = a := by omega
    subst hta
    clear ht hc3
    have hnb : ¬ badP i g t e := fun ⟨b, j, hb, hj, h⟩ => htl b j hb hj h
    rw [stl0 h1 hnd hnm hnb]
    repeat' (first | refine xo 4000 rfl ?_ ?_ | refine xw 4000 rfl ?_ ?_ | refine xk 4000 rfl ?_ ?_ | exact trivial | ((with_reducible (show AllP (_ :: _))); refine And.intro ?_ ?_) | refine xs rfl ?_ ?_ | refine xs_done ?_ | refine pcond_t rfl ?_ | refine pcond_f rfl ?_ | refine kround_exit ?_ | refine kround_ret ?_ | refine kround_next ?_ | refine kloop_ret ?_ | refine kloop_exit ?_ | refine kcut_ret ?_ | refine kcut_exit ?_ | refine xo0 4000 rfl ?_ ?_ | refine xw0 4000 rfl ?_ ?_ | exact qq | fail)
    refine pcan (can_virt (vRow cO 5 0 (lF dO (restS g e t 0))) rfl) ?_
    refine pcan (st' := ⟨[(9, .mref 0), (20, slP 0 1), (95, vOs i g), (96, vi i), (97, vi ((0 : Nat) : Int))], [mRow kS L, vRow cO 5 0 (lF dO (restS g e t 0))]⟩) (can_rowsv [1, 2] (k0_sel hk rfl) rfl (.cons rfl m_eq (.cons rfl rqq .nil)) tmq) ?_
    refine ploop (fun q st => ∃ (j ke : Nat), j ≤ i ∧ (restS g e t j).length = ke ∧ ke ≤ 16 ∧ q = i - j ∧ st = ⟨[(9, .mref 0), (20, slP ke 1), (95, vOs i g), (96, vi i), (97, vi j)], [mRow kS L, vRow cO 5 ke (lF dO (restS g e t j))]⟩) i ⟨0, 0, by omega, rfl, by omega, rfl, rfl⟩ ?_
    rintro _ _ ⟨j, ke, hj, hke, hke6, rfl, rfl⟩
    repeat' (first | refine xo 4000 rfl ?_ ?_ | refine xw 4000 rfl ?_ ?_ | refine xk 4000 rfl ?_ ?_ | exact trivial | ((with_reducible (show AllP (_ :: _))); refine And.intro ?_ ?_) | refine xs rfl ?_ ?_ | refine xs_done ?_ | refine pcond_t rfl ?_ | refine pcond_f rfl ?_ | refine kround_exit ?_ | refine kround_ret ?_ | refine kround_next ?_ | refine kloop_ret ?_ | refine kloop_exit ?_ | refine kcut_ret ?_ | refine kcut_exit ?_ | refine xo0 4000 rfl ?_ ?_ | refine xw0 4000 rfl ?_ ?_ | exact qq | fail)
    refine pcond rfl ?_ ?_ <;> intro hc3 <;> simp at hc3
    · have hw : IntKind.i64.wrap ((j : Int) + 1) = ((j + 1 : Nat) : Int) := w64 (by omega) (by omega)
      have hrl := rest_len (g := g) (e := e) (m := t) j
      have htt : 0 ≤ (g j).tt ∧ (g j).tt ≤ 1000000000 := ⟨(hO.t0 j hc3), (hO.t1 j hc3)⟩
      have hb := tkF_bd hnd hnb hc3 htt.1
      have hlk : (mget L (g j).id).getD 0 = tkF e t (g j).id := by rw [hL]; rfl
      have hw2 : IntKind.i64.wrap ((g (j : Int).toNat).tt - tkF e t (g j).id) = (leftO e t (g j)).tt := by
        have hw3 : IntKind.i64.wrap ((g j).tt - tkF e t (g j).id) = (leftO e t (g j)).tt := w64 (by omega) (by omega)
        exact hw3
      repeat' (first | refine xo 4000 rfl ?_ ?_ | refine xw 4000 rfl ?_ ?_ | refine xk 4000 rfl ?_ ?_ | exact trivial | ((with_reducible (show AllP (_ :: _))); refine And.intro ?_ ?_) | refine xs rfl ?_ ?_ | refine xs_done ?_ | refine pcond_t rfl ?_ | refine pcond_f rfl ?_ | refine kround_exit ?_ | refine kround_ret ?_ | refine kround_next ?_ | refine kloop_ret ?_ | refine kloop_exit ?_ | refine kcut_ret ?_ | refine kcut_exit ?_ | refine xo0 4000 rfl ?_ ?_ | refine xw0 4000 rfl ?_ ?_ | exact qq | fail)
      refine pop_look mapSI false (g j).id rfl rfl rfl rfl rfl rfl rfl ?_
      rw [hlk]
      repeat' (first | refine xo 4000 rfl ?_ ?_ | refine xw 4000 rfl ?_ ?_ | refine xk 4000 rfl ?_ ?_ | exact trivial | ((with_reducible (show AllP (_ :: _))); refine And.intro ?_ ?_) | refine xs rfl ?_ ?_ | refine xs_done ?_ | refine pcond_t rfl ?_ | refine pcond_f rfl ?_ | refine kround_exit ?_ | refine kround_ret ?_ | refine kround_next ?_ | refine kloop_ret ?_ | refine kloop_exit ?_ | refine kcut_ret ?_ | refine kcut_exit ?_ | refine xo0 4000 rfl ?_ ?_ | refine xw0 4000 rfl ?_ ?_ | exact qq | fail)
      rw [hw2]
      refine pcond rfl ?_ ?_ <;> intro hc7
      · have hc7 : ¬ (leftO e t (g j)).tt = 0 := by simpa using hc7
        have e1 : restS g e t (j + 1) = restS g e t j ++ [leftO e t (g j)] := by rw [restS, if_neg hc7]
        have hlen' : (restS g e t j ++ [leftO e t (g j)]).length = ke + 1 := by rw [List.length_append, hke]; rfl
        have hle' : ke + 1 ≤ 16 := by omega
        rcases ke with _ | ke
        · repeat' (first | refine xo 4000 rfl ?_ ?_ | refine xw 4000 rfl ?_ ?_ | refine xk 4000 rfl ?_ ?_ | exact trivial | ((with_reducible (show AllP (_ :: _))); refine And.intro ?_ ?_) | refine xs rfl ?_ ?_ | refine xs_done ?_ | refine pcond_t rfl ?_ | refine pcond_f rfl ?_ | refine kround_exit ?_ | refine kround_ret ?_ | refine kround_next ?_ | refine kloop_ret ?_ | refine kloop_exit ?_ | refine kcut_ret ?_ | refine kcut_exit ?_ | refine xo0 4000 rfl ?_ ?_ | refine xw0 4000 rfl ?_ ?_ | exact qq | fail)
          rw [hw]
          exact kloop_next (st' := ⟨[(9, .mref 0), (20, slP (0 + 1) 1), (95, vOs i g), (96, vi i), (97, vi ((j + 1 : Nat) : Int))], [mRow kS L, vRow cO 5 (0 + 1) (lF dO (restS g e t j ++ [leftO e t (g j)]))]⟩) (i - (j + 1)) (can_rowsv [0, 4] (k0_sel hk rfl) rfl (.cons rfl m_eq (.cons rfl rqq .nil)) tmq) (by omega) ⟨j + 1, 0 + 1, by omega, by rw [e1]; exact hlen', hle', rfl, by rw [e1]⟩
        · repeat' (first | refine xo 4000 rfl ?_ ?_ | refine xw 4000 rfl ?_ ?_ | refine xk 4000 rfl ?_ ?_ | exact trivial | ((with_reducible (show AllP (_ :: _))); refine And.intro ?_ ?_) | refine xs rfl ?_ ?_ | refine xs_done ?_ | refine pcond_t rfl ?_ | refine pcond_f rfl ?_ | refine kround_exit ?_ | refine kround_ret ?_ | refine kround_next ?_ | refine kloop_ret ?_ | refine kloop_exit ?_ | refine kcut_ret ?_ | refine kcut_exit ?_ | refine xo0 4000 rfl ?_ ?_ | refine xw0 4000 rfl ?_ ?_ | exact qq | fail)
          rw [hw]
          exact kloop_next (st' := ⟨[(9, .mref 0), (20, slP (ke + 1 + 1) 1), (95, vOs i g), (96, vi i), (97, vi ((j + 1 : Nat) : Int))], [mRow kS L, vRow cO 5 (ke + 1 + 1) (lF dO (restS g e t j ++ [leftO e t (g j)]))]⟩) (i - (j + 1)) (can_rowsv [0, 4] (k0_sel hk rfl) rfl (.cons rfl m_eq (.cons rfl rqq .nil)) tmq) (by omega) ⟨j + 1, ke + 1 + 1, by omega, by rw [e1]; exact hlen', hle', rfl, by rw [e1]⟩
      · have hc7 : (leftO e t (g j)).tt = 0 := by simpa using hc7
        have e1 : restS g e t (j + 1) = restS g e t j := by rw [restS, if_pos hc7]
        repeat' (first | refine xo 4000 rfl ?_ ?_ | refine xw 4000 rfl ?_ ?_ | refine xk 4000 rfl ?_ ?_ | exact trivial | ((with_reducible (show AllP (_ :: _))); refine And.intro ?_ ?_) | refine xs rfl ?_ ?_ | refine xs_done ?_ | refine pcond_t rfl ?_ | refine pcond_f rfl ?_ | refine kround_exit ?_ | refine kround_ret ?_ | refine kround_next ?_ | refine kloop_ret ?_ | refine kloop_exit ?_ | refine kcut_ret ?_ | refine kcut_exit ?_ | refine xo0 4000 rfl ?_ ?_ | refine xw0 4000 rfl ?_ ?_ | exact qq | fail)
        rw [hw]
        exact kloop_next (st' := ⟨[(9, .mref 0), (20, slP ke 1), (95, vOs i g), (96, vi i), (97, vi ((j + 1 : Nat) : Int))], [mRow kS L, vRow cO 5 ke (lF dO (restS g e t j))]⟩) (i - (j + 1)) (can_rowsv [0, 1] (k0_sel hk rfl) rfl (.cons rfl m_eq (.cons rfl rqq .nil)) tmq) (by omega) ⟨j + 1, ke, by omega, by rw [e1]; exact hke, hke6, rfl, by rw [e1]⟩
    · have hji : j = i := by omega
      subst hji
      rcases ke with _ | ke
      · have e0 : restS g e t j = [] := List.length_eq_zero_iff.1 hke
        repeat' (first | refine xo 4000 rfl ?_ ?_ | refine xw 4000 rfl ?_ ?_ | refine xk 4000 rfl ?_ ?_ | exact trivial | ((with_reducible (show AllP (_ :: _))); refine And.intro ?_ ?_) | refine xs rfl ?_ ?_ | refine xs_done ?_ | refine pcond_t rfl ?_ | refine pcond_f rfl ?_ | refine kround_exit ?_ | refine kround_ret ?_ | refine kround_next ?_ | refine kloop_ret ?_ | refine kloop_exit ?_ | refine kcut_ret ?_ | refine kcut_exit ?_ | refine xo0 4000 rfl ?_ ?_ | refine xw0 4000 rfl ?_ ?_ | exact qq | fail)
        refine xdone ?_
        exact kret [] rfl ⟨trivial, trivial, trivial⟩ (qs := [vOs 0 (lF dO []), vi 0]) ⟨argNil, argVal, trivial⟩ (by rw [e0]; rfl)
      · repeat' (first | refine xo 4000 rfl ?_ ?_ | refine xw 4000 rfl ?_ ?_ | refine xk 4000 rfl ?_ ?_ | exact trivial | ((with_reducible (show AllP (_ :: _))); refine And.intro ?_ ?_) | refine xs rfl ?_ ?_ | refine xs_done ?_ | refine pcond_t rfl ?_ | refine pcond_f rfl ?_ | refine kround_exit ?_ | refine kround_ret ?_ | refine kround_next ?_ | refine kloop_ret ?_ | refine kloop_exit ?_ | refine kcut_ret ?_ | refine kcut_exit ?_ | refine xo0 4000 rfl ?_ ?_ | refine xw0 4000 rfl ?_ ?_ | exact qq | fail)
        refine xdone ?_
        refine kret [1] rfl ⟨trivial, trivial, trivial⟩ (qs := [.vsl (ke + 1) 5 (tF cO (lF dO (restS g e t j))), vi 0]) ⟨arg_o (s := .own) cO_cl rfl trivial (List.Mem.head _), argVal, trivial⟩ ?_
        show pack [.vsl (ke + 1) 5 (tF cO (lF dO (restS g e t j))), vi 0] = _
        rw [← hke]; rfl
end Go.Proofs.Ytipdkompinnghaa
namespace Go.Proofs.Ytipdkompinnghaa
/-- the orders within a round -/
def gO (g : Nat → Ord) (e : Nat → Elt) (i q : Nat) : Nat → Ord := fun x => ⟨(g x).id, (g x).rk, (g x).dy, (g x).am, if x < q then outS g e x (i + 1) else outS g e x i⟩
section
variable {n m : Nat} {g : Nat → Ord} {e : Nat → Elt} {i q : Nat}
theorem gO_tt : (gO g e i q q).tt = outS g e q i := by simp [gO]
theorem gO_keep (h : outS g e q (i + 1) = outS g e q i) : gO g e i (q + 1) = gO g e i q := by
  funext x
  unfold gO
  by_cases e1 : x = q
  · subst e1; simp [h]
  · by_cases e2 : x < q
    · rw [if_pos (by omega), if_pos e2]
    · rw [if_neg (by omega), if_neg e2]
theorem gO_upd : gO g e i (q + 1) = updA (gO g e i q) q ⟨(g q).id, (g q).rk, (g q).dy, (g q).am, outS g e q (i + 1)⟩ := by
  funext x
  unfold gO updA
  by_cases e1 : x = q
  · subst e1; simp
  · rw [if_neg e1]
    dsimp only
    by_cases e2 : x < q
    · rw [if_pos (by omega), if_pos e2]
    · rw [if_neg (by omega), if_neg e2]
theorem gO_end : ∀ a, a < n → gO g e i n a = gO g e (i + 1) 0 a := fun a ha => by simp [gO, ha]
theorem gO_start : ∀ a, gO g e 0 0 a = g a := fun a => by simp [gO, outS]
theorem gO_left (hd : ¬ dupP m e) (hb : ¬ badP n g m e) (hi : i < n) : gO g e m 0 i = leftO e m (g i) := by
  unfold gO leftO
  rw [if_neg (by omega), out_ok hd hb hi m (Nat.le_refl _)]
end
set_option maxHeartbeats 2000000 in
theorem settle31_c (n : Nat) (g : Nat → Ord) (m : Nat) (e : Nat → Elt) (hs : ∀ i, i < n → (g i).id.size ≤ 9223372036854775807) (hm : m ≤ 9223372036854775807) : PureC G.P 40 [vOs n g, vEl m e] (fun r => r = vSt (stlS n g m e)) := by
  refine pure_of (G := G.toPg) (fn := Try.f40) Try.func40 rfl rfl rfl ?_; intro Γ hk
  repeat' (first | refine xo 4000 rfl ?_ ?_ | refine xw 4000 rfl ?_ ?_ | refine xk 4000 rfl ?_ ?_ | exact trivial | ((with_reducible (show AllP (_ :: _))); refine And.intro ?_ ?_) | refine xs rfl ?_ ?_ | refine xs_done ?_ | refine pop_callv rfl rfl rfl rfl rfl (validOrders31_c _ _ hs) rfl rfl rfl ?_ | refine xs_call rfl rfl rfl rfl rfl rfl (validOrders31_c _ _ hs) rfl rfl rfl ?_ | refine xs_one (ch := []) rfl rfl rfl (pst_callv rfl rfl rfl rfl rfl (validOrders31_c _ _ hs) rfl rfl rfl ?_) | refine pop_callgv rfl rfl rfl rfl rfl rfl (fun _ => validOrders31_c _ _ hs) (by first | exact fun h => ⟨h, trivial⟩ | exact fun _ => trivial | exact fun h => ⟨h, h, trivial⟩) rfl rfl rfl ?_ | refine xs_one (ch := []) rfl rfl rfl (pst_callgv rfl rfl rfl rfl rfl rfl (fun _ => validOrders31_c _ _ hs) (by first | exact fun h => ⟨h, trivial⟩ | exact fun _ => trivial | exact fun h => ⟨h, h, trivial⟩) rfl rfl rfl ?_) | refine pcond_t rfl ?_ | refine pcond_f rfl ?_ | refine kround_exit ?_ | refine kround_ret ?_ | refine kround_next ?_ | refine kloop_ret ?_ | refine kloop_exit ?_ | refine kcut_ret ?_ | refine kcut_exit ?_ | refine xo0 4000 rfl ?_ ?_ | refine xw0 4000 rfl ?_ ?_ | exact qq | fail)
  refine pcond rfl ?_ ?_ <;> intro hc
  · have h1 : ordsB n g = false := by simpa using hc
    repeat' (first | refine xo 4000 rfl ?_ ?_ | refine xw 4000 rfl ?_ ?_ | refine xk 4000 rfl ?_ ?_ | exact trivial | ((with_reducible (show AllP (_ :: _))); refine And.intro ?_ ?_) | refine xs rfl ?_ ?_ | refine xs_done ?_ | refine pcond_t rfl ?_ | refine pcond_f rfl ?_ | refine kround_exit ?_ | refine kround_ret ?_ | refine kround_next ?_ | refine kloop_ret ?_ | refine kloop_exit ?_ | refine kcut_ret ?_ | refine kcut_exit ?_ | refine xo0 4000 rfl ?_ ?_ | refine xw0 4000 rfl ?_ ?_ | exact qq | fail)
    refine xdone ?_
    exact kret [] rfl ⟨trivial, trivial, trivial⟩ (qs := [vOs 0 (lF dO []), vi 1]) ⟨argNil, argVal, trivial⟩ (by rw [stl1 h1]; rfl)
  · have h1 : ordsB n g = true := by simpa using hc
    have hO := ords_ok h1
    have hn16 := hO.n16
    have hd := ids_dist h1
    repeat' (first | refine xo 4000 rfl ?_ ?_ | refine xw 4000 rfl ?_ ?_ | refine xk 4000 rfl ?_ ?_ | exact trivial | ((with_reducible (show AllP (_ :: _))); refine And.intro ?_ ?_) | refine xs rfl ?_ ?_ | refine xs_done ?_ | refine pcond_t rfl ?_ | refine pcond_f rfl ?_ | refine kround_exit ?_ | refine kround_ret ?_ | refine kround_next ?_ | refine kloop_ret ?_ | refine kloop_exit ?_ | refine kcut_ret ?_ | refine kcut_exit ?_ | refine xo0 4000 rfl ?_ ?_ | refine xw0 4000 rfl ?_ ?_ | exact qq | fail)
    refine pcan (st' := ⟨[(0, vOs n g), (1, vEl m e), (6, vi ((0 : Nat) : Int))], []⟩) (can_rowsv [] (k0_sel hk rfl) rfl .nil tmq) ?_
    refine ploop (fun q st => ∃ (i : Nat), i ≤ m ∧ (∀ a b, a < i → b < a → (e b).cd ≠ (e a).cd) ∧ q = m - i ∧ st = ⟨[(0, vOs n g), (1, vEl m e), (6, vi i)], []⟩) m ⟨0, by omega, fun a b ha => by omega, rfl, rfl⟩ ?_
    rintro _ _ ⟨i, hi, hfr, rfl, rfl⟩
    repeat' (first | refine xo 4000 rfl ?_ ?_ | refine xw 4000 rfl ?_ ?_ | refine xk 4000 rfl ?_ ?_ | exact trivial | ((with_reducible (show AllP (_ :: _))); refine And.intro ?_ ?_) | refine xs rfl ?_ ?_ | refine xs_done ?_ | refine pcond_t rfl ?_ | refine pcond_f rfl ?_ | refine kround_exit ?_ | refine kround_ret ?_ | refine kround_next ?_ | refine kloop_ret ?_ | refine kloop_exit ?_ | refine kcut_ret ?_ | refine kcut_exit ?_ | refine xo0 4000 rfl ?_ ?_ | refine xw0 4000 rfl ?_ ?_ | exact qq | fail)
    refine pcond rfl ?_ ?_ <;> intro hc2 <;> simp at hc2
    · repeat' (first | refine xo 4000 rfl ?_ ?_ | refine xw 4000 rfl ?_ ?_ | refine xk 4000 rfl ?_ ?_ | exact trivial | ((with_reducible (show AllP (_ :: _))); refine And.intro ?_ ?_) | refine xs rfl ?_ ?_ | refine xs_done ?_ | refine pcond_t rfl ?_ | refine pcond_f rfl ?_ | refine kround_exit ?_ | refine kround_ret ?_ | refine kround_next ?_ | refine kloop_ret ?_ | refine kloop_exit ?_ | refine kcut_ret ?_ | refine kcut_exit ?_ | refine xo0 4000 rfl ?_ ?_ | refine xw0 4000 rfl ?_ ?_ | exact qq | fail)
      refine pcan (st' := ⟨[(0, vOs n g), (1, vEl m e), (6, vi (i : Int)), (7, vi ((0 : Nat) : Int))], []⟩) (can_rowsv [] (k0_sel hk rfl) rfl .nil tmq) ?_
      refine ploop (fun q st => ∃ (j : Nat), j ≤ i ∧ (∀ b, b < j → (e b).cd ≠ (e i).cd) ∧ q = i - j ∧ st = ⟨[(0, vOs n g), (1, vEl m e), (6, vi i), (7, vi j)], []⟩) i ⟨0, by omega, fun b hb => by omega, rfl, rfl⟩ ?_
      rintro _ _ ⟨j, hj, hne, rfl, rfl⟩
      repeat' (first | refine xo 4000 rfl ?_ ?_ | refine xw 4000 rfl ?_ ?_ | refine xk 4000 rfl ?_ ?_ | exact trivial | ((with_reducible (show AllP (_ :: _))); refine And.intro ?_ ?_) | refine xs rfl ?_ ?_ | refine xs_done ?_ | refine pcond_t rfl ?_ | refine pcond_f rfl ?_ | refine kround_exit ?_ | refine kround_ret ?_ | refine kround_next ?_ | refine kloop_ret ?_ | refine kloop_exit ?_ | refine kcut_ret ?_ | refine kcut_exit ?_ | refine xo0 4000 rfl ?_ ?_ | refine xw0 4000 rfl ?_ ?_ | exact qq | fail)
      refine pcond rfl ?_ ?_ <;> intro hc3 <;> simp at hc3
      · repeat' (first | refine xo 4000 rfl ?_ ?_ | refine xw 4000 rfl ?_ ?_ | refine xk 4000 rfl ?_ ?_ | exact trivial | ((with_reducible (show AllP (_ :: _))); refine And.intro ?_ ?_) | refine xs rfl ?_ ?_ | refine xs_done ?_ | refine xs_start (id := 9) true [.take 0, .take 1, .take 2, .take 3, .take 4, .take 5, .take 6, .take 7, .take 8, .take 9, .take 10] 0 rfl rfl (by kernel_rfl) ?_ | refine xs_start (id := 20) true [.take 0, .take 1, .take 2, .take 3, .take 4, .take 5, .take 6, .take 7, .take 8, .take 9, .take 10] 0 rfl rfl (by kernel_rfl) ?_ | refine xs_start (id := 22) true [.take 0, .take 1, .take 2, .take 3, .take 4, .take 5, .take 6, .take 7, .take 8, .take 9, .take 10, .take 11, .take 12, .take 13, .take 14, .take 15, .take 16, .take 17, .take 18] 0 rfl rfl (by kernel_rfl) ?_ | refine xs_start (id := 24) true [.take 0, .take 1, .take 2, .take 3, .take 5, .take 6, .take 7, .take 8, .take 9, .one 4, .take 10, .take 11, .take 12, .one 13] 0 rfl rfl (by kernel_rfl) ?_ | refine pcond_t rfl ?_ | refine pcond_f rfl ?_ | refine kround_exit ?_ | refine kround_ret ?_ | refine kround_next ?_ | refine kloop_ret ?_ | refine kloop_exit ?_ | refine kcut_ret ?_ | refine kcut_exit ?_ | refine xo0 4000 rfl ?_ ?_ | refine xw0 4000 rfl ?_ ?_ | exact qq | fail)
        refine pcond (b := decide ((e j).cd = (e i).cd)) ?_ ?_ ?_
        · exact eqB (ba_beq _ _)
        · intro hc4
          have h8 : dupP m e := ⟨j, i, hc3, hc2, by simpa using hc4⟩
          repeat' (first | refine xo 4000 rfl ?_ ?_ | refine xw 4000 rfl ?_ ?_ | refine xk 4000 rfl ?_ ?_ | exact trivial | ((with_reducible (show AllP (_ :: _))); refine And.intro ?_ ?_) | refine xs rfl ?_ ?_ | refine xs_done ?_ | refine pcond_t rfl ?_ | refine pcond_f rfl ?_ | refine kround_exit ?_ | refine kround_ret ?_ | refine kround_next ?_ | refine kloop_ret ?_ | refine kloop_exit ?_ | refine kcut_ret ?_ | refine kcut_exit ?_ | refine xo0 4000 rfl ?_ ?_ | refine xw0 4000 rfl ?_ ?_ | exact qq | fail)
          refine xdone ?_
          exact kret [] rfl ⟨trivial, trivial, trivial⟩ (qs := [vOs 0 (lF dO []), vi 8]) ⟨argNil, argVal, trivial⟩ (by rw [stl8 h1 h8]; rfl)
        · intro hc4
          have hc4 : ¬ (e j).cd = (e i).cd := by simpa using hc4
          repeat' (first | refine xo 4000 rfl ?_ ?_ | refine xw 4000 rfl ?_ ?_ | refine xk 4000 rfl ?_ ?_ | exact trivial | ((with_reducible (show AllP (_ :: _))); refine And.intro ?_ ?_) | refine xs rfl ?_ ?_ | refine xs_done ?_ | refine pcond_t rfl ?_ | refine pcond_f rfl ?_ | refine kround_exit ?_ | refine kround_ret ?_ | refine kround_next ?_ | refine kloop_ret ?_ | refine kloop_exit ?_ | refine kcut_ret ?_ | refine kcut_exit ?_ | refine xo0 4000 rfl ?_ ?_ | refine xw0 4000 rfl ?_ ?_ | exact qq | fail)
          rw [show IntKind.i64.wrap ((j : Int) + 1) = ((j + 1 : Nat) : Int) from w64 (by omega) (by omega)]
          exact kloop_next (i - (j + 1)) (can_sel [0, 1, 6, 7]) (by omega) ⟨j + 1, by omega, fun b hb => by
            by_cases e1 : b = j
            · subst e1; exact hc4
            · exact hne b (by omega), rfl, rfl⟩
      · have hji : j = i := by omega
        subst hji
        repeat' (first | refine xo 4000 rfl ?_ ?_ | refine xw 4000 rfl ?_ ?_ | refine xk 4000 rfl ?_ ?_ | exact trivial | ((with_reducible (show AllP (_ :: _))); refine And.intro ?_ ?_) | refine xs rfl ?_ ?_ | refine xs_done ?_ | refine pcond_t rfl ?_ | refine pcond_f rfl ?_ | refine kround_exit ?_ | refine kround_ret ?_ | refine kround_next ?_ | refine kloop_ret ?_ | refine kloop_exit ?_ | refine kcut_ret ?_ | refine kcut_exit ?_ | refine xo0 4000 rfl ?_ ?_ | refine xw0 4000 rfl ?_ ?_ | exact qq | fail)
        rw [show IntKind.i64.wrap ((j : Int) + 1) = ((j + 1 : Nat) : Int) from w64 (by omega) (by omega)]
        exact kloop_next (m - (j + 1)) (can_sel [0, 1, 6]) (by omega) ⟨j + 1, by omega, fun a b ha hb => by
            by_cases e1 : a = j
            · subst e1; exact hne b hb
            · exact hfr a b (by omega) hb, rfl, rfl⟩
    have him : i = m := by omega
    subst him
    clear hi hc2
    have hnd : ¬ dupP i e := fun ⟨b, a, hba, ha, he⟩ => hfr a b ha hba he
    repeat' (first | refine xo 4000 rfl ?_ ?_ | refine xw 4000 rfl ?_ ?_ | refine xk 4000 rfl ?_ ?_ | exact trivial | ((with_reducible (show AllP (_ :: _))); refine And.intro ?_ ?_) | refine xs rfl ?_ ?_ | refine xs_done ?_ | exact (show True ∧ _ ∧ _ ∧ (_ : Nat) * 48 ≤ 140737488355328 ∧ (_ : Nat) ≤ 9223372036854775807 from ⟨trivial, (by rw [hk]; exact Nat.le_of_ble_eq_true rfl), Nat.le_of_eq (Nat.zero_add _), (by omega), (by omega)⟩) | refine pcond_t rfl ?_ | refine pcond_f rfl ?_ | refine kround_exit ?_ | refine kround_ret ?_ | refine kround_next ?_ | refine kloop_ret ?_ | refine kloop_exit ?_ | refine kcut_ret ?_ | refine kcut_exit ?_ | refine xo0 4000 rfl ?_ ?_ | refine xw0 4000 rfl ?_ ?_ | exact qq | fail)
    rw [Nat.zero_add n]
    refine pcan (st' := ⟨[(1, vEl i e), (8, .lsl 0 0 n), (9, vb false), (10, vi ((0 : Nat) : Int))], [oRow cO 5 n (gO g e 0 0)]⟩) (can_rowsv [1] (k0_sel hk rfl) rfl (.cons rfl (o_eq cO_cl (Nat.le_refl _) fun a ha b hb => by rw [gO_start]; rfl) .nil) tmq) ?_
    refine ploop (fun q st => ∃ (t : Nat) (hb : Bool), t ≤ i ∧ (∀ b, b < t → ∃ j, j < n ∧ (g j).id = (e b).cd) ∧ (hb = true ↔ ∃ b j, b < t ∧ j < n ∧ badAt g e b j) ∧ q = i - t ∧ st = ⟨[(1, vEl i e), (8, .lsl 0 0 n), (9, vb hb), (10, vi t)], [oRow cO 5 n (gO g e t 0)]⟩) i ⟨0, false, by omega, fun b hb => by omega, ⟨fun h => by simp at h, fun ⟨b, j, hb, _⟩ => by omega⟩, rfl, rfl⟩ ?_
    rintro _ _ ⟨t, hb, ht, hal, hbi, rfl, rfl⟩
    repeat' (first | refine xo 4000 rfl ?_ ?_ | refine xw 4000 rfl ?_ ?_ | refine xk 4000 rfl ?_ ?_ | exact trivial | ((with_reducible (show AllP (_ :: _))); refine And.intro ?_ ?_) | refine xs rfl ?_ ?_ | refine xs_done ?_ | refine pcond_t rfl ?_ | refine pcond_f rfl ?_ | refine kround_exit ?_ | refine kround_ret ?_ | refine kround_next ?_ | refine kloop_ret ?_ | refine kloop_exit ?_ | refine kcut_ret ?_ | refine kcut_exit ?_ | refine xo0 4000 rfl ?_ ?_ | refine xw0 4000 rfl ?_ ?_ | exact qq | fail)
    refine pcond rfl ?_ ?_ <;> intro hc3 <;> simp at hc3
    · repeat' (first | refine xo 4000 rfl ?_ ?_ | refine xw 4000 rfl ?_ ?_ | refine xk 4000 rfl ?_ ?_ | exact trivial | ((with_reducible (show AllP (_ :: _))); refine And.intro ?_ ?_) | refine xs rfl ?_ ?_ | refine xs_done ?_ | refine pcond_t rfl ?_ | refine pcond_f rfl ?_ | refine kround_exit ?_ | refine kround_ret ?_ | refine kround_next ?_ | refine kloop_ret ?_ | refine kloop_exit ?_ | refine kcut_ret ?_ | refine kcut_exit ?_ | refine xo0 4000 rfl ?_ ?_ | refine xw0 4000 rfl ?_ ?_ | exact qq | fail)
      refine pcan (st' := ⟨[(1, vEl i e), (8, .lsl 0 0 n), (9, vb hb), (10, vi t), (11, vb false), (12, vi ((0 : Nat) : Int))], [oRow cO 5 n (gO g e t 0)]⟩) (can_rowsv [0] (k0_sel hk rfl) rfl (.cons rfl rqq .nil) tmq) ?_
      refine ploop (fun y st => ∃ (q : Nat) (hb fb : Bool), q ≤ n ∧ (fb = true ↔ ∃ j, j < q ∧ (g j).id = (e t).cd) ∧ (hb = true ↔ (∃ b j, b < t ∧ j < n ∧ badAt g e b j) ∨ ∃ j, j < q ∧ badAt g e t j) ∧ y = n - q ∧ st = ⟨[(1, vEl i e), (8, .lsl 0 0 n), (9, vb hb), (10, vi t), (11, vb fb), (12, vi q)], [oRow cO 5 n (gO g e t q)]⟩) n ⟨0, hb, false, by omega, ⟨fun h => by simp at h, fun ⟨j, hj, _⟩ => by omega⟩, ⟨fun h => .inl (hbi.1 h), fun h => h.elim hbi.2 fun ⟨j, hj, _⟩ => by omega⟩, rfl, rfl⟩ ?_
      clear hbi hb
      rintro _ _ ⟨q, hb, fb, hq, hfi, hbi, rfl, rfl⟩
      repeat' (first | refine xo 4000 rfl ?_ ?_ | refine xw 4000 rfl ?_ ?_ | refine xk 4000 rfl ?_ ?_ | exact trivial | ((with_reducible (show AllP (_ :: _))); refine And.intro ?_ ?_) | refine xs rfl ?_ ?_ | refine xs_done ?_ | refine pcond_t rfl ?_ | refine pcond_f rfl ?_ | refine kround_exit ?_ | refine kround_ret ?_ | refine kround_next ?_ | refine kloop_ret ?_ | refine kloop_exit ?_ | refine kcut_ret ?_ | refine kcut_exit ?_ | refine xo0 4000 rfl ?_ ?_ | refine xw0 4000 rfl ?_ ?_ | exact qq | fail)
      refine pcond rfl ?_ ?_ <;> intro hc4 <;> simp at hc4
      · have hw : IntKind.i64.wrap ((q : Int) + 1) = ((q + 1 : Nat) : Int) := w64 (by omega) (by omega)
        have eq0 : 0 + (q : Int).toNat = q := by omega
        repeat' (first | refine xo 4000 rfl ?_ ?_ | refine xw 4000 rfl ?_ ?_ | refine xk 4000 rfl ?_ ?_ | exact trivial | ((with_reducible (show AllP (_ :: _))); refine And.intro ?_ ?_) | refine xs rfl ?_ ?_ | refine xs_done ?_ | refine xs_start (id := 9) true [.take 0, .take 1, .take 2, .take 3, .take 4, .take 5, .take 6, .take 7, .take 8, .take 9, .take 10] 0 rfl rfl (by kernel_rfl) ?_ | refine xs_start (id := 20) true [.take 0, .take 1, .take 2, .take 3, .take 4, .take 5, .take 6, .take 7, .take 8, .take 9, .take 10] 0 rfl rfl (by kernel_rfl) ?_ | refine xs_start (id := 22) true [.take 0, .take 1, .take 2, .take 3, .take 4, .take 5, .take 6, .take 7, .take 8, .take 9, .take 10, .take 11, .take 12, .take 13, .take 14, .take 15, .take 16, .take 17, .take 18] 0 rfl rfl (by kernel_rfl) ?_ | refine xs_start (id := 24) true [.take 0, .take 1, .take 2, .take 3, .take 5, .take 6, .take 7, .take 8, .take 9, .one 4, .take 10, .take 11, .take 12, .one 13] 0 rfl rfl (by kernel_rfl) ?_ | refine pcond_t rfl ?_ | refine pcond_f rfl ?_ | refine kround_exit ?_ | refine kround_ret ?_ | refine kround_next ?_ | refine kloop_ret ?_ | refine kloop_exit ?_ | refine kcut_ret ?_ | refine kcut_exit ?_ | refine xo0 4000 rfl ?_ ?_ | refine xw0 4000 rfl ?_ ?_ | exact qq | fail)
        refine pcond (b := decide ((g q).id = (e t).cd)) ?_ ?_ ?_
        · refine eqB ?_
          rw [eq0]
          exact ba_beq _ _
        · intro hc5
          have hc5 : (g q).id = (e t).cd := by simpa using hc5
          have htt := hO.t0 q hc4
          have htt1 := hO.t1 q hc4
          have hat := out_at (g := g) hnd hc3 hc5
          have hf' : true = true ↔ ∃ j, j < q + 1 ∧ (g j).id = (e t).cd := ⟨fun _ => ⟨q, by omega, hc5⟩, fun _ => rfl⟩
          repeat' (first | refine xo 4000 rfl ?_ ?_ | refine xw 4000 rfl ?_ ?_ | refine xk 4000 rfl ?_ ?_ | exact trivial | ((with_reducible (show AllP (_ :: _))); refine And.intro ?_ ?_) | refine xs rfl ?_ ?_ | refine xs_done ?_ | refine xs_start (id := 9) true [.take 0, .take 1, .take 2, .take 3, .take 4, .take 5, .take 6, .take 7, .take 8, .take 9, .take 10] 0 rfl rfl (by kernel_rfl) ?_ | refine xs_start (id := 20) true [.take 0, .take 1, .take 2, .take 3, .take 4, .take 5, .take 6, .take 7, .take 8, .take 9, .take 10] 0 rfl rfl (by kernel_rfl) ?_ | refine xs_start (id := 22) true [.take 0, .take 1, .take 2, .take 3, .take 4, .take 5, .take 6, .take 7, .take 8, .take 9, .take 10, .take 11, .take 12, .take 13, .take 14, .take 15, .take 16, .take 17, .take 18] 0 rfl rfl (by kernel_rfl) ?_ | refine xs_start (id := 24) true [.take 0, .take 1, .take 2, .take 3, .take 5, .take 6, .take 7, .take 8, .take 9, .one 4, .take 10, .take 11, .take 12, .one 13] 0 rfl rfl (by kernel_rfl) ?_ | refine pcond_t rfl ?_ | refine pcond_f rfl ?_ | refine kround_exit ?_ | refine kround_ret ?_ | refine kround_next ?_ | refine kloop_ret ?_ | refine kloop_exit ?_ | refine kcut_ret ?_ | refine kcut_exit ?_ | refine xo0 4000 rfl ?_ ?_ | refine xw0 4000 rfl ?_ ?_ | exact qq | fail)
          refine pcond (b := decide ((e t).am < 0 ∨ (g q).tt < (e t).am)) ?_ ?_ ?_
          · refine eqB ?_
            rw [eq0, gO_tt, hat]
            by_cases e1 : (e t).am < 0 <;> by_cases e2 : (g q).tt < (e t).am <;> simp [e1, e2]
          · intro hc6
            have hc6 : (e t).am < 0 ∨ (g q).tt < (e t).am := by simpa using hc6
            have hk1 : outS g e q (t + 1) = outS g e q t := by rw [outS, stepT, if_pos (by simpa using hc5), hat, if_pos hc6]
            repeat' (first | refine xo 4000 rfl ?_ ?_ | refine xw 4000 rfl ?_ ?_ | refine xk 4000 rfl ?_ ?_ | exact trivial | ((with_reducible (show AllP (_ :: _))); refine And.intro ?_ ?_) | refine xs rfl ?_ ?_ | refine xs_done ?_ | refine pcond_t rfl ?_ | refine pcond_f rfl ?_ | refine kround_exit ?_ | refine kround_ret ?_ | refine kround_next ?_ | refine kloop_ret ?_ | refine kloop_exit ?_ | refine kcut_ret ?_ | refine kcut_exit ?_ | refine xo0 4000 rfl ?_ ?_ | refine xw0 4000 rfl ?_ ?_ | exact qq | fail)
            rw [hw]
            exact kloop_next (st' := ⟨[(1, vEl i e), (8, .lsl 0 0 n), (9, vb true), (10, vi t), (11, vb true), (12, vi ((q + 1 : Nat) : Int))], [oRow cO 5 n (gO g e t q)]⟩) (n - (q + 1)) (can_rowsv [0] (k0_sel hk rfl) rfl (.cons rfl rqq .nil) tmq) (by omega) ⟨q + 1, true, true, by omega, hf', ⟨fun _ => .inr ⟨q, by omega, hc5, hc6⟩, fun _ => rfl⟩, rfl, by rw [gO_keep hk1]⟩
          · intro hc6
            have hc6 : ¬ ((e t).am < 0 ∨ (g q).tt < (e t).am) := by simpa using hc6
            have hk1 : outS g e q (t + 1) = (g q).tt - (e t).am := by rw [outS, stepT, if_pos (by simpa using hc5), hat, if_neg hc6]
            have hw3 : IntKind.i64.wrap ((g q).tt - (e t).am) = outS g e q (t + 1) := by rw [hk1]; exact w64 (by omega) (by omega)
            have hw2 : IntKind.i64.wrap ((g q).tt - (e (t : Int).toNat).am) = outS g e q (t + 1) := hw3
            repeat' (first | refine xo 4000 rfl ?_ ?_ | refine xw 4000 rfl ?_ ?_ | refine xk 4000 rfl ?_ ?_ | exact trivial | ((with_reducible (show AllP (_ :: _))); refine And.intro ?_ ?_) | refine xs rfl ?_ ?_ | refine xs_done ?_ | refine xs_start (id := 9) true [.take 0, .take 1, .take 2, .take 3, .take 4, .take 5, .take 6, .take 7, .take 8, .take 9, .take 10] 0 rfl rfl (by kernel_rfl) ?_ | refine xs_start (id := 20) true [.take 0, .take 1, .take 2, .take 3, .take 4, .take 5, .take 6, .take 7, .take 8, .take 9, .take 10] 0 rfl rfl (by kernel_rfl) ?_ | refine xs_start (id := 22) true [.take 0, .take 1, .take 2, .take 3, .take 4, .take 5, .take 6, .take 7, .take 8, .take 9, .take 10, .take 11, .take 12, .take 13, .take 14, .take 15, .take 16, .take 17, .take 18] 0 rfl rfl (by kernel_rfl) ?_ | refine xs_start (id := 24) true [.take 0, .take 1, .take 5, .take 6, .take 7, .take 8, .take 9, .one 2, .one 3, .one 4, .take 10, .one 11, .one 12, .one 13] 0 rfl rfl (by kernel_rfl) ?_ | refine pcond_t rfl ?_ | refine pcond_f rfl ?_ | refine kround_exit ?_ | refine kround_ret ?_ | refine kround_next ?_ | refine kloop_ret ?_ | refine kloop_exit ?_ | refine kcut_ret ?_ | refine kcut_exit ?_ | refine xo0 4000 rfl ?_ ?_ | refine xw0 4000 rfl ?_ ?_ | exact qq | fail)
            rw [hw]
            exact kloop_next (st' := ⟨[(1, vEl i e), (8, .lsl 0 0 n), (9, vb hb), (10, vi t), (11, vb true), (12, vi ((q + 1 : Nat) : Int))], [oRow cO 5 n (updA (gO g e t q) q ⟨(g q).id, (g q).rk, (g q).dy, (g q).am, outS g e q (t + 1)⟩)]⟩) (n - (q + 1)) (can_rowsv [0] (k0_sel hk rfl) rfl (.cons rfl (by rw [eq0, gO_tt, hat, hw2]; exact upd_o cO_cl rfl rfl) .nil) tmq) (by omega) ⟨q + 1, hb, true, by omega, hf', hbi.trans ⟨fun h => h.imp id fun ⟨j, hj, h⟩ => ⟨j, by omega, h⟩, fun h => h.imp id fun ⟨j, hj, h'⟩ => ⟨j, by
              by_cases e1 : j = q
              · subst e1; exact absurd h'.2 hc6
              · omega, h'⟩⟩, rfl, by rw [gO_upd]⟩
        · intro hc5
          have hc5 : ¬ (g q).id = (e t).cd := by simpa using hc5
          have hk1 : outS g e q (t + 1) = outS g e q t := by rw [outS, stepT, if_neg (by simpa using hc5)]
          repeat' (first | refine xo 4000 rfl ?_ ?_ | refine xw 4000 rfl ?_ ?_ | refine xk 4000 rfl ?_ ?_ | exact trivial | ((with_reducible (show AllP (_ :: _))); refine And.intro ?_ ?_) | refine xs rfl ?_ ?_ | refine xs_done ?_ | refine pcond_t rfl ?_ | refine pcond_f rfl ?_ | refine kround_exit ?_ | refine kround_ret ?_ | refine kround_next ?_ | refine kloop_ret ?_ | refine kloop_exit ?_ | refine kcut_ret ?_ | refine kcut_exit ?_ | refine xo0 4000 rfl ?_ ?_ | refine xw0 4000 rfl ?_ ?_ | exact qq | fail)
          rw [hw]
          exact kloop_next (st' := ⟨[(1, vEl i e), (8, .lsl 0 0 n), (9, vb hb), (10, vi t), (11, vb fb), (12, vi ((q + 1 : Nat) : Int))], [oRow cO 5 n (gO g e t q)]⟩) (n - (q + 1)) (can_rowsv [0] (k0_sel hk rfl) rfl (.cons rfl rqq .nil) tmq) (by omega) ⟨q + 1, hb, fb, by omega, hfi.trans ⟨fun ⟨j, hj, h⟩ => ⟨j, by omega, h⟩, fun ⟨j, hj, h⟩ => ⟨j, by
              by_cases e1 : j = q
              · subst e1; exact absurd h hc5
              · omega, h⟩⟩, hbi.trans ⟨fun h => h.imp id fun ⟨j, hj, h⟩ => ⟨j, by omega, h⟩, fun h => h.imp id fun ⟨j, hj, h'⟩ => ⟨j, by
              by_cases e1 : j = q
              · subst e1; exact absurd h'.1 hc5
              · omega, h'⟩⟩, rfl, by rw [gO_keep hk1]⟩
      · have hqn : q = n := by omega
        subst hqn
        repeat' (first | refine xo 4000 rfl ?_ ?_ | refine xw 4000 rfl ?_ ?_ | refine xk 4000 rfl ?_ ?_ | exact trivial | ((with_reducible (show AllP (_ :: _))); refine And.intro ?_ ?_) | refine xs rfl ?_ ?_ | refine xs_done ?_ | refine pcond_t rfl ?_ | refine pcond_f rfl ?_ | refine kround_exit ?_ | refine kround_ret ?_ | refine kround_next ?_ | refine kloop_ret ?_ | refine kloop_exit ?_ | refine kcut_ret ?_ | refine kcut_exit ?_ | refine xo0 4000 rfl ?_ ?_ | refine xw0 4000 rfl ?_ ?_ | exact qq | fail)
        refine pcond rfl ?_ ?_ <;> intro hc5 <;> simp at hc5
        · have h16 : misP q g i e := ⟨t, hc3, fun j hj he => by have := hfi.2 ⟨j, hj, he⟩; rw [hc5] at this; cases this⟩
          repeat' (first | refine xo 4000 rfl ?_ ?_ | refine xw 4000 rfl ?_ ?_ | refine xk 4000 rfl ?_ ?_ | exact trivial | ((with_reducible (show AllP (_ :: _))); refine And.intro ?_ ?_) | refine xs rfl ?_ ?_ | refine xs_done ?_ | refine pcond_t rfl ?_ | refine pcond_f rfl ?_ | refine kround_exit ?_ | refine kround_ret ?_ | refine kround_next ?_ | refine kloop_ret ?_ | refine kloop_exit ?_ | refine kcut_ret ?_ | refine kcut_exit ?_ | refine xo0 4000 rfl ?_ ?_ | refine xw0 4000 rfl ?_ ?_ | exact qq | fail)
          refine xdone ?_
          exact kret [] rfl ⟨trivial, trivial, trivial⟩ (qs := [vOs 0 (lF dO []), vi 16]) ⟨argNil, argVal, trivial⟩ (by rw [stl16 h1 hnd h16]; rfl)
        · obtain ⟨j, hj, hje⟩ := hfi.1 hc5
          repeat' (first | refine xo 4000 rfl ?_ ?_ | refine xw 4000 rfl ?_ ?_ | refine xk 4000 rfl ?_ ?_ | exact trivial | ((with_reducible (show AllP (_ :: _))); refine And.intro ?_ ?_) | refine xs rfl ?_ ?_ | refine xs_done ?_ | refine pcond_t rfl ?_ | refine pcond_f rfl ?_ | refine kround_exit ?_ | refine kround_ret ?_ | refine kround_next ?_ | refine kloop_ret ?_ | refine kloop_exit ?_ | refine kcut_ret ?_ | refine kcut_exit ?_ | refine xo0 4000 rfl ?_ ?_ | refine xw0 4000 rfl ?_ ?_ | exact qq | fail)
          rw [show IntKind.i64.wrap ((t : Int) + 1) = ((t + 1 : Nat) : Int) from w64 (by omega) (by omega)]
          exact kloop_next (st' := ⟨[(1, vEl i e), (8, .lsl 0 0 q), (9, vb hb), (10, vi ((t + 1 : Nat) : Int))], [oRow cO 5 q (gO g e (t + 1) 0)]⟩) (i - (t + 1)) (can_rowsv [0] (k0_sel hk rfl) rfl (.cons rfl (o_eq cO_cl (Nat.le_refl _) fun a ha b hb => by rw [← gO_end a ha]; rfl) .nil) tmq) (by omega) ⟨t + 1, hb, by omega, fun b hb => by
            by_cases e1 : b = t
            · subst e1; exact ⟨j, hj, hje⟩
            · exact hal b (by omega), hbi.trans ⟨fun h => h.elim (fun ⟨b, j, h1, h2, h3⟩ => ⟨b, j, by omega, h2, h3⟩) fun ⟨j, h1, h2⟩ => ⟨t, j, by omega, h1, h2⟩, fun ⟨b, j, h1, h2, h3⟩ => by
              by_cases e1 : b = t
              · subst e1; exact .inr ⟨j, h2, h3⟩
              · exact .inl ⟨b, j, by omega, h2, h3⟩⟩, rfl, rfl⟩
    have hti : t = i := by omega
    subst hti
    clear ht hc3
    have hnm : ¬ misP n g t e := fun ⟨b, hb, h⟩ => by obtain ⟨j, hj, e1⟩ := hal b hb; exact h j hj e1
    repeat' (first | refine xo 4000 rfl ?_ ?_ | refine xw 4000 rfl ?_ ?_ | refine xk 4000 rfl ?_ ?_ | exact trivial | ((with_reducible (show AllP (_ :: _))); refine And.intro ?_ ?_) | refine xs rfl ?_ ?_ | refine xs_done ?_ | refine pcond_t rfl ?_ | refine pcond_f rfl ?_ | refine kround_exit ?_ | refine kround_ret ?_ | refine kround_next ?_ | refine kloop_ret ?_ | refine kloop_exit ?_ | refine kcut_ret ?_ | refine kcut_exit ?_ | refine xo0 4000 rfl ?_ ?_ | refine xw0 4000 rfl ?_ ?_ | exact qq | fail)
    refine pcond rfl ?_ ?_ <;> intro hc3
    · have h2 : badP n g t e := hbi.1 hc3
      repeat' (first | refine xo 4000 rfl ?_ ?_ | refine xw 4000 rfl ?_ ?_ | refine xk 4000 rfl ?_ ?_ | exact trivial | ((with_reducible (show AllP (_ :: _))); refine And.intro ?_ ?_) | refine xs rfl ?_ ?_ | refine xs_done ?_ | refine pcond_t rfl ?_ | refine pcond_f rfl ?_ | refine kround_exit ?_ | refine kround_ret ?_ | refine kround_next ?_ | refine kloop_ret ?_ | refine kloop_exit ?_ | refine kcut_ret ?_ | refine kcut_exit ?_ | refine xo0 4000 rfl ?_ ?_ | refine xw0 4000 rfl ?_ ?_ | exact qq | fail)
      refine xdone ?_
      exact kret [] rfl ⟨trivial, trivial, trivial⟩ (qs := [vOs 0 (lF dO []), vi 2]) ⟨argNil, argVal, trivial⟩ (by rw [stl2 h1 hnd hnm h2]; rfl)
    have hnb : ¬ badP n g t e := fun h => by have := hbi.2 h; rw [this] at hc3; cases hc3
    clear hbi
    rw [stl0 h1 hnd hnm hnb]
    repeat' (first | refine xo 4000 rfl ?_ ?_ | refine xw 4000 rfl ?_ ?_ | refine xk 4000 rfl ?_ ?_ | exact trivial | ((with_reducible (show AllP (_ :: _))); refine And.intro ?_ ?_) | refine xs rfl ?_ ?_ | refine xs_done ?_ | refine pcond_t rfl ?_ | refine pcond_f rfl ?_ | refine kround_exit ?_ | refine kround_ret ?_ | refine kround_next ?_ | refine kloop_ret ?_ | refine kloop_exit ?_ | refine kcut_ret ?_ | refine kcut_exit ?_ | refine xo0 4000 rfl ?_ ?_ | refine xw0 4000 rfl ?_ ?_ | exact qq | fail)
    refine pcan (can_virt (vRow cO 5 0 (lF dO (restS g e t 0))) rfl) ?_
    refine pcan (st' := ⟨[(8, .lsl 0 0 n), (13, slP 0 1), (14, vi ((0 : Nat) : Int))], [oRow cO 5 n (gO g e t 0), vRow cO 5 0 (lF dO (restS g e t 0))]⟩) (can_rowsv [0, 1] (k0_sel hk rfl) rfl (.cons rfl rqq (.cons rfl rqq .nil)) tmq) ?_
    refine ploop (fun q st => ∃ (j ke : Nat), j ≤ n ∧ (restS g e t j).length = ke ∧ ke ≤ 16 ∧ q = n - j ∧ st = ⟨[(8, .lsl 0 0 n), (13, slP ke 1), (14, vi j)], [oRow cO 5 n (gO g e t 0), vRow cO 5 ke (lF dO (restS g e t j))]⟩) n ⟨0, 0, by omega, rfl, by omega, rfl, rfl⟩ ?_
    rintro _ _ ⟨j, ke, hj, hke, hke6, rfl, rfl⟩
    repeat' (first | refine xo 4000 rfl ?_ ?_ | refine xw 4000 rfl ?_ ?_ | refine xk 4000 rfl ?_ ?_ | exact trivial | ((with_reducible (show AllP (_ :: _))); refine And.intro ?_ ?_) | refine xs rfl ?_ ?_ | refine xs_done ?_ | refine pcond_t rfl ?_ | refine pcond_f rfl ?_ | refine kround_exit ?_ | refine kround_ret ?_ | refine kround_next ?_ | refine kloop_ret ?_ | refine kloop_exit ?_ | refine kcut_ret ?_ | refine kcut_exit ?_ | refine xo0 4000 rfl ?_ ?_ | refine xw0 4000 rfl ?_ ?_ | exact qq | fail)
    refine pcond rfl ?_ ?_ <;> intro hc4 <;> simp at hc4
    · have hw : IntKind.i64.wrap ((j : Int) + 1) = ((j + 1 : Nat) : Int) := w64 (by omega) (by omega)
      have eq0 : 0 + (j : Int).toNat = j := by omega
      have hrl := rest_len (g := g) (e := e) (m := t) j
      have hbd := tkF_bd hnd hnb hc4 (hO.t0 j hc4)
      have hgl := gO_left hnd hnb hc4
      have h0 : 0 ≤ (leftO e t (g j)).tt := by show 0 ≤ (g j).tt - tkF e t (g j).id; omega
      repeat' (first | refine xo 4000 rfl ?_ ?_ | refine xw 4000 rfl ?_ ?_ | refine xk 4000 rfl ?_ ?_ | exact trivial | ((with_reducible (show AllP (_ :: _))); refine And.intro ?_ ?_) | refine xs rfl ?_ ?_ | refine xs_done ?_ | refine pcond_t rfl ?_ | refine pcond_f rfl ?_ | refine kround_exit ?_ | refine kround_ret ?_ | refine kround_next ?_ | refine kloop_ret ?_ | refine kloop_exit ?_ | refine kcut_ret ?_ | refine kcut_exit ?_ | refine xo0 4000 rfl ?_ ?_ | refine xw0 4000 rfl ?_ ?_ | exact qq | fail)
      rw [eq0, hgl]
      refine pcond rfl ?_ ?_ <;> intro hc7 <;> simp at hc7
      · have hc8 : ¬ (leftO e t (g j)).tt = 0 := by omega
        have e1 : restS g e t (j + 1) = restS g e t j ++ [leftO e t (g j)] := by rw [restS, if_neg hc8]
        have hlen' : (restS g e t j ++ [leftO e t (g j)]).length = ke + 1 := by rw [List.length_append, hke]; rfl
        have hle' : ke + 1 ≤ 16 := by omega
        rcases ke with _ | ke
        · repeat' (first | refine xo 4000 rfl ?_ ?_ | refine xw 4000 rfl ?_ ?_ | refine xk 4000 rfl ?_ ?_ | exact trivial | ((with_reducible (show AllP (_ :: _))); refine And.intro ?_ ?_) | refine xs rfl ?_ ?_ | refine xs_done ?_ | refine pcond_t rfl ?_ | refine pcond_f rfl ?_ | refine kround_exit ?_ | refine kround_ret ?_ | refine kround_next ?_ | refine kloop_ret ?_ | refine kloop_exit ?_ | refine kcut_ret ?_ | refine kcut_exit ?_ | refine xo0 4000 rfl ?_ ?_ | refine xw0 4000 rfl ?_ ?_ | exact qq | fail)
          rw [hw, eq0, hgl]
          exact kloop_next (st' := ⟨[(8, .lsl 0 0 n), (13, slP (0 + 1) 1), (14, vi ((j + 1 : Nat) : Int))], [oRow cO 5 n (gO g e t 0), vRow cO 5 (0 + 1) (lF dO (restS g e t j ++ [leftO e t (g j)]))]⟩) (n - (j + 1)) (can_rowsv [0, 3] (k0_sel hk rfl) rfl (.cons rfl rqq (.cons rfl rqq .nil)) tmq) (by omega) ⟨j + 1, 0 + 1, by omega, by rw [e1]; exact hlen', hle', rfl, by rw [e1]⟩
        · repeat' (first | refine xo 4000 rfl ?_ ?_ | refine xw 4000 rfl ?_ ?_ | refine xk 4000 rfl ?_ ?_ | exact trivial | ((with_reducible (show AllP (_ :: _))); refine And.intro ?_ ?_) | refine xs rfl ?_ ?_ | refine xs_done ?_ | refine pcond_t rfl ?_ | refine pcond_f rfl ?_ | refine kround_exit ?_ | refine kround_ret ?_ | refine kround_next ?_ | refine kloop_ret ?_ | refine kloop_exit ?_ | refine kcut_ret ?_ | refine kcut_exit ?_ | refine xo0 4000 rfl ?_ ?_ | refine xw0 4000 rfl ?_ ?_ | exact qq | fail)
          rw [hw, eq0, hgl]
          exact kloop_next (st' := ⟨[(8, .lsl 0 0 n), (13, slP (ke + 1 + 1) 1), (14, vi ((j + 1 : Nat) : Int))], [oRow cO 5 n (gO g e t 0), vRow cO 5 (ke + 1 + 1) (lF dO (restS g e t j ++ [leftO e t (g j)]))]⟩) (n - (j + 1)) (can_rowsv [0, 3] (k0_sel hk rfl) rfl (.cons rfl rqq (.cons rfl rqq .nil)) tmq) (by omega) ⟨j + 1, ke + 1 + 1, by omega, by rw [e1]; exact hlen', hle', rfl, by rw [e1]⟩
      · have hc8 : (leftO e t (g j)).tt = 0 := by omega
        have e1 : restS g e t (j + 1) = restS g e t j := by rw [restS, if_pos hc8]
        repeat' (first | refine xo 4000 rfl ?_ ?_ | refine xw 4000 rfl ?_ ?_ | refine xk 4000 rfl ?_ ?_ | exact trivial | ((with_reducible (show AllP (_ :: _))); refine And.intro ?_ ?_) | refine xs rfl ?_ ?_ | refine xs_done ?_ | refine pcond_t rfl ?_ | refine pcond_f rfl ?_ | refine kround_exit ?_ | refine kround_ret ?_ | refine kround_next ?_ | refine kloop_ret ?_ | refine kloop_exit ?_ | refine kcut_ret ?_ | refine kcut_exit ?_ | refine xo0 4000 rfl ?_ ?_ | refine xw0 4000 rfl ?_ ?_ | exact qq | fail)
        rw [hw]
        exact kloop_next (st' := ⟨[(8, .lsl 0 0 n), (13, slP ke 1), (14, vi ((j + 1 : Nat) : Int))], [oRow cO 5 n (gO g e t 0), vRow cO 5 ke (lF dO (restS g e t j))]⟩) (n - (j + 1)) (can_rowsv [0, 1] (k0_sel hk rfl) rfl (.cons rfl rqq (.cons rfl rqq .nil)) tmq) (by omega) ⟨j + 1, ke, by omega, by rw [e1]; exact hke, hke6, rfl, by rw [e1]⟩
    · have hji : j = n := by omega
      subst hji
      rcases ke with _ | ke
      · have e0 : restS g e t j = [] := List.length_eq_zero_iff.1 hke
        repeat' (first | refine xo 4000 rfl ?_ ?_ | refine xw 4000 rfl ?_ ?_ | refine xk 4000 rfl ?_ ?_ | exact trivial | ((with_reducible (show AllP (_ :: _))); refine And.intro ?_ ?_) | refine xs rfl ?_ ?_ | refine xs_done ?_ | refine pcond_t rfl ?_ | refine pcond_f rfl ?_ | refine kround_exit ?_ | refine kround_ret ?_ | refine kround_next ?_ | refine kloop_ret ?_ | refine kloop_exit ?_ | refine kcut_ret ?_ | refine kcut_exit ?_ | refine xo0 4000 rfl ?_ ?_ | refine xw0 4000 rfl ?_ ?_ | exact qq | fail)
        refine xdone ?_
        exact kret [] rfl ⟨trivial, trivial, trivial⟩ (qs := [vOs 0 (lF dO []), vi 0]) ⟨argNil, argVal, trivial⟩ (by rw [e0]; rfl)
      · repeat' (first | refine xo 4000 rfl ?_ ?_ | refine xw 4000 rfl ?_ ?_ | refine xk 4000 rfl ?_ ?_ | exact trivial | ((with_reducible (show AllP (_ :: _))); refine And.intro ?_ ?_) | refine xs rfl ?_ ?_ | refine xs_done ?_ | refine pcond_t rfl ?_ | refine pcond_f rfl ?_ | refine kround_exit ?_ | refine kround_ret ?_ | refine kround_next ?_ | refine kloop_ret ?_ | refine kloop_exit ?_ | refine kcut_ret ?_ | refine kcut_exit ?_ | refine xo0 4000 rfl ?_ ?_ | refine xw0 4000 rfl ?_ ?_ | exact qq | fail)
        refine xdone ?_
        refine kret [1] rfl ⟨trivial, trivial, trivial⟩ (qs := [.vsl (ke + 1) 5 (tF cO (lF dO (restS g e t j))), vi 0]) ⟨arg_o (s := .own) cO_cl rfl trivial (List.Mem.head _), argVal, trivial⟩ ?_
        show pack [.vsl (ke + 1) 5 (tF cO (lF dO (restS g e t j))), vi 0] = _
        rw [← hke]; rfl
end Go.Proofs.Ytipdkompinnghaa
