/- CheckNeeds: the given statement, for every input: the law returns true and leaves its arguments alone. No conditions. -/
import Derived.Test.YtnlcenlamkfmnaaX20
import Derived.Test.YtnlcenlamkfmnaaY1
import Derived.ProofKit
import Derived.OpenShut
import Derived.ShutString
import Derived.ChangeOld
import Derived.Lib.SmallJoins
set_option linter.unusedSimpArgs false
set_option linter.unusedVariables false
set_option maxRecDepth 100000
namespace Go.Proofs.Ytnlcenlamkfmnaa
theorem findS_app {N X : List Df} {s : ByteArray} (h : (findS N s).2 = 0) : findS (N ++ X) s = findS N s := by
  induction N with
  | nil => exact absurd (show (7 : Int) = 0 from h) (by decide)
  | cons d l ih =>
    rw [List.cons_append]
    unfold findS at h ⊢
    split
    · rfl
    · rename_i hn
      rw [if_neg hn] at h
      exact ih h
theorem findS_no {N : List Df} {s : ByteArray} (h : ∀ d, d ∈ N → d.nm.toList ≠ s.toList) : findS N s = (t0, 7) := by
  induction N with
  | nil => rfl
  | cons d l ih =>
    unfold findS
    rw [if_neg (h d (List.mem_cons_self ..))]
    exact ih fun d' hd' => h d' (List.mem_cons_of_mem _ hd')
theorem findS_skip {N X : List Df} {s : ByteArray} (h : ∀ d, d ∈ N → d.nm.toList ≠ s.toList) : findS (N ++ X) s = findS X s := by
  induction N with
  | nil => rfl
  | cons d l ih =>
    rw [List.cons_append, findS, if_neg (h d (List.mem_cons_self ..))]
    exact ih fun d' hd' => h d' (List.mem_cons_of_mem _ hd')
theorem Env.app {N S P : List Df} (h : Env N S P) (X Y Z : List Df) : Env (N ++ X) (S ++ Y) (P ++ Z) := by
  constructor
  all_goals first
    | (rw [findS_app (by rw [h.h])]; exact h.h)
    | (rw [findS_app (by rw [h.g])]; exact h.g)
    | (rw [findS_app (by rw [h.f])]; exact h.f)
    | (rw [findS_app (by rw [h.r1])]; exact h.r1)
    | (rw [findS_app (by rw [h.r2])]; exact h.r2)
    | (rw [findS_app (by rw [h.r3])]; exact h.r3)
    | (rw [findS_app (by rw [h.r4])]; exact h.r4)
    | (rw [findS_app (by rw [h.a])]; exact h.a)
    | (rw [findS_app (by rw [h.w])]; exact h.w)
    | (rw [findS_app (by rw [h.s])]; exact h.s)
    | (rw [findS_app (by rw [h.gross])]; exact h.gross)
    | (rw [findS_app (by rw [h.time])]; exact h.time)
theorem errD_any {l pre : List Df} {d : Df} (h : errD l pre d = 0) : pre.any (fun b => collS b d) = false := by
  cases hb : pre.any (fun b => collS b d)
  · rfl
  · unfold errD at h
    rw [if_pos hb] at h
    exact absurd h (by decide)
/-- the definitions of a made agreement have no problem, whatever comes behind -/
theorem errX {hh : Nat} {l X : List Df} (hA : AGood hh l) (h32 : hh ≤ 32) (hp : ∀ x, x ∈ X → isNm x = true → ∀ d, d ∈ l → d.kind = 5 → x.nm.toList ≠ d.nm.toList) {n : Nat} (hn : n < l.length) : errD (l ++ X) ((l ++ X).take n) (lF dD (l ++ X) n) = 0 := by
  have h0 := errD_any (err_good hA.all hA.key hA.env h32 (AGood.past hA.all) hn)
  rw [lF_lt hn, List.take_append_of_le_length (by omega)]
  have hm : lF dD l n ∈ l := by rw [lF_take hn]; exact List.getElem_mem hn
  have hd := hA.all _ hm
  unfold errD
  rw [h0, if_neg (by simp)]
  have hE : Env ((l ++ X).filter isNm) ((l ++ X).filter isSc) ((l ++ X).filter isPa) := by
    rw [List.filter_append, List.filter_append, List.filter_append]; exact hA.env.app _ _ _
  by_cases h5 : (lF dD l n).kind = 5
  · rw [if_pos h5]
    unfold pastS
    have : ((l ++ X).filter isNm).find? (fun x => x.nm.toList == (lF dD l n).nm.toList) = none := by
      rw [List.find?_eq_none]
      intro x hx
      rw [List.mem_filter, List.mem_append] at hx
      rcases hx.1 with h | h
      · simpa using AGood.past hA.all x h hx.2 _ hm h5
      · simpa using hp x h hx.2 _ hm h5
    rw [this]
  · rw [if_neg h5]
    split
    · rename_i h34
      exact body_good hE (hd.wt h34) h32 rfl
    · rfl
theorem probX {hh : Nat} {l X : List Df} (hA : AGood hh l) (h32 : hh ≤ 32) (hp : ∀ x, x ∈ X → isNm x = true → ∀ d, d ∈ l → d.kind = 5 → x.nm.toList ≠ d.nm.toList) : probS (l ++ X) l.length = [] := probS_nil _ fun i hi => errX hA h32 hp hi
theorem agrX {hh : Nat} {l X : List Df} {nm : ByteArray} (hA : AGood hh l) (hnm : nameS nm = true) (hl : X.length ≤ 2) (hX : ∀ d, d ∈ X → nameS d.nm = true ∧ defS d = true) : agrS nm (l ++ X) = true := by
  unfold agrS
  have := hA.len
  rw [hnm, decide_eq_true (by rw [List.length_append]; omega : (l ++ X).length ≤ 128), List.all_eq_true.2 fun d hd => ?_]
  · rfl
  · rcases List.mem_append.1 hd with h | h
    · rw [tab_nm _ (hA.all d h).tab, (hA.all d h).df]; rfl
    · rw [(hX d h).1, (hX d h).2]; rfl
theorem coll_nm {a b : Df} (h : a.nm.toList ≠ b.nm.toList) : collS a b = false := by
  unfold collS
  have : (a.nm.toList == b.nm.toList) = false := by rw [Bool.eq_false_iff]; intro hc; exact h (by simpa using hc)
  rw [this]; rfl
theorem any_no {l : List Df} {d : Df} (h : ∀ b, b ∈ l → b.nm.toList ≠ d.nm.toList) : l.any (fun b => collS b d) = false := by
  rw [Bool.eq_false_iff]
  intro hc
  obtain ⟨b, hb, h2⟩ := List.any_eq_true.1 hc
  rw [coll_nm (h b hb)] at h2
  cases h2
abbrev n_user : ByteArray := ⟨#[117, 115, 101, 114]⟩
abbrev n_lost : ByteArray := ⟨#[108, 111, 115, 116]⟩
def lostL : List ByteArray := [n_lost, n_w, n_gross]
abbrev uD (nm : ByteArray) : Df := dR n_user t0 20454 (.mk 3 0 0 0 0 0 nm 0 0 0 kn)
abbrev lD : Df := dI 1 n_lost t0
theorem user_new : ∀ x, x ∈ tabL → x.1.toList ≠ n_user.toList ∧ x.1.toList ≠ n_lost.toList ∧ (x.2.1 = 1 ∨ x.2.1 = 3 ∨ x.2.1 = 4 → x.1.toList ≠ n_w.toList ∧ x.1.toList ≠ n_gross.toList) := by decide +kernel
theorem user_df : ∀ nm, nm ∈ lostL → defS (uD nm) = true := by
  intro nm h
  simp only [lostL, List.mem_cons, List.not_mem_nil, or_false] at h
  rcases h with rfl | rfl | rfl <;> decide +kernel
theorem user_bd : ∀ nm, nm ∈ lostL → BdD (uD nm) := by
  intro nm h
  have hs : nm.size ≤ 9223372036854775807 := by
    simp only [lostL, List.mem_cons, List.not_mem_nil, or_false] at h
    rcases h with rfl | rfl | rfl <;> decide
  exact ⟨by show n_user.size ≤ 9223372036854775807; decide, fun i hi => absurd hi (Nat.not_lt_zero i), Nat.zero_le _, .mk ⟨by decide, by decide, hs⟩ (fun i hi => absurd hi (Nat.not_lt_zero i)), by show (-9223372036854775808 : Int) ≤ 0; decide, by show (0 : Int) ≤ 9223372036854775807; decide⟩
theorem lost_bd : BdD lD := ⟨by decide, fun i hi => absurd hi (Nat.not_lt_zero i), Nat.zero_le _, .nil, by show (-9223372036854775808 : Int) ≤ 0; decide, by show (0 : Int) ≤ 9223372036854775807; decide⟩
theorem body_name {N S P : List Df} {nm : ByteArray} : typeS N S P 32 (.mk 3 0 0 0 0 0 nm 0 0 0 kn) = findS N nm := by
  unfold typeS
  rw [if_neg (by rintro ⟨h, _⟩; exact absurd h (Nat.not_lt_zero _)), if_neg (by rintro ⟨h, _⟩; exact absurd h (Nat.not_lt_zero _)), if_neg (by rintro ⟨h, _⟩; exact absurd h (Nat.not_lt_zero _))]
  unfold opS
  rw [if_neg (by show ¬ (3 : Int) = 1; decide), if_neg (by show ¬ (3 : Int) = 2; decide), if_pos (by show (3 : Int) = 3; rfl)]
  rfl
section
variable {hh : Nat} {l : List Df} (hA : AGood hh l)
include hA
theorem nm_user {b : Df} (hb : b ∈ l) : b.nm.toList ≠ n_user.toList := (user_new _ (hA.all b hb).tab).1
theorem nm_lost {b : Df} (hb : b ∈ l) : b.nm.toList ≠ n_lost.toList := (user_new _ (hA.all b hb).tab).2.1
theorem nm_lostL {nm : ByteArray} (hn : nm ∈ lostL) : ∀ b, b ∈ l.filter isNm → b.nm.toList ≠ nm.toList := by
  intro b hb
  rw [List.mem_filter] at hb
  have h := user_new _ (hA.all b hb.1).tab
  have hk : b.kind = 1 ∨ b.kind = 3 ∨ b.kind = 4 := by simpa [isNm] using hb.2
  simp only [lostL, List.mem_cons, List.not_mem_nil, or_false] at hn
  rcases hn with rfl | rfl | rfl
  · exact h.2.1
  · exact (h.2.2 hk).1
  · exact (h.2.2 hk).2
theorem pastX {nm : ByteArray} : ∀ x, x ∈ [uD nm, lD] → isNm x = true → ∀ d, d ∈ l → d.kind = 5 → x.nm.toList ≠ d.nm.toList := by
  intro x hx _ d hd _
  simp only [List.mem_cons, List.not_mem_nil, or_false] at hx
  rcases hx with rfl | rfl
  · exact fun h => nm_user hA hd h.symm
  · exact fun h => nm_lost hA hd h.symm
theorem err_user {X : List Df} {nm : ByteArray} (hn : nm ∈ lostL) : errD (l ++ uD nm :: X) l (uD nm) = (if (findS (X.filter isNm) nm).2 ≠ 0 then (findS (X.filter isNm) nm).2 else agreeS (findS (X.filter isNm) nm).1 t0) := by
  unfold errD
  rw [any_no (fun b hb => nm_user hA hb), if_neg (by simp), if_neg (by show ¬ (3 : Int) = 5; decide), if_pos (.inl rfl)]
  unfold bodyS
  have hf : (l ++ uD nm :: X).filter isNm = l.filter isNm ++ (uD nm :: X.filter isNm) := by
    rw [List.filter_append, List.filter_cons_of_pos (by rfl)]
  have hu : findS (uD nm :: X.filter isNm) nm = findS (X.filter isNm) nm := by
    rw [findS, if_neg]
    simp only [lostL, List.mem_cons, List.not_mem_nil, or_false] at hn
    rcases hn with rfl | rfl | rfl <;> decide +kernel
  show (if (typeS _ _ _ 32 (.mk 3 0 0 0 0 0 nm 0 0 0 kn)).2 ≠ 0 then _ else _) = _
  rw [body_name, hf, findS_skip (nm_lostL hA hn), hu]
  rfl
/-- a name that is not defined -/
theorem chk_user {nm mn : ByteArray} (h32 : hh ≤ 32) (hnm : nameS mn = true) (hn : nm ∈ lostL) : chkL mn (l ++ [uD nm]) = ([((l.length : Int), 7)], 0) := by
  unfold chkL
  have hX : ∀ d, d ∈ [uD nm] → nameS d.nm = true ∧ defS d = true := by
    intro d hd
    obtain rfl : d = uD nm := by simpa using hd
    exact ⟨by show nameS n_user = true; decide +kernel, user_df nm hn⟩
  have hP : ∀ x, x ∈ [uD nm] → isNm x = true → ∀ d, d ∈ l → d.kind = 5 → x.nm.toList ≠ d.nm.toList := by
    intro x hx hi d hd hk
    obtain rfl : x = uD nm := by simpa using hx
    exact pastX hA (nm := nm) _ (List.mem_cons_self ..) hi d hd hk
  rw [if_pos (agrX hA hnm (by simp) hX)]
  have e : (l ++ [uD nm]).length = l.length + 1 := by simp
  rw [e]
  have h1 : lF dD (l ++ [uD nm]) l.length = uD nm := lF_at
  have h2 : (l ++ [uD nm]).take l.length = l := by simp
  have h3 : errD (l ++ [uD nm]) l (uD nm) = 7 := by rw [err_user hA hn]; rfl
  show (probS (l ++ [uD nm]) (l.length + 1), (0 : Int)) = _
  unfold probS
  rw [h1, h2, h3, if_neg (by decide), probX hA h32 hP]
  rfl
/-- .. and is defined behind -/
theorem chk_lost {nm mn : ByteArray} (h32 : hh ≤ 32) (hnm : nameS mn = true) (hn : nm ∈ lostL) : chkL mn (l ++ [uD nm, lD]) = (if nm = n_lost then [] else [((l.length : Int), 7)], 0) := by
  unfold chkL
  rw [if_pos (agrX hA hnm (by simp) (fun d hd => by
    simp only [List.mem_cons, List.not_mem_nil, or_false] at hd
    rcases hd with rfl | rfl
    · exact ⟨by show nameS n_user = true; decide +kernel, user_df nm hn⟩
    · exact ⟨by show nameS n_lost = true; decide +kernel, by decide +kernel⟩))]
  have e : (l ++ [uD nm, lD]).length = l.length + 1 + 1 := by simp
  rw [e]
  have h0 : lF dD (l ++ [uD nm, lD]) (l.length + 1) = lD := by
    unfold lF; rw [List.getD_eq_getElem?_getD, List.getElem?_append_right (by omega), show l.length + 1 - l.length = 1 by omega]; rfl
  have h0t : (l ++ [uD nm, lD]).take (l.length + 1) = l ++ [uD nm] := by rw [List.take_append, List.take_of_length_le (by omega), show l.length + 1 - l.length = 1 by omega]; rfl
  have h1 : lF dD (l ++ [uD nm, lD]) l.length = uD nm := lF_at
  have h2 : (l ++ [uD nm, lD]).take l.length = l := by simp
  have hl : errD (l ++ [uD nm, lD]) (l ++ [uD nm]) lD = 0 := by
    unfold errD
    rw [any_no (fun b hb => ?_), if_neg (by simp), if_neg (by show ¬ (1 : Int) = 5; decide), if_neg (by show ¬ ((1 : Int) = 3 ∨ (1 : Int) = 4); decide)]
    rcases List.mem_append.1 hb with h | h
    · exact nm_lost hA h
    · obtain rfl : b = uD nm := by simpa using h
      show n_user.toList ≠ n_lost.toList
      decide +kernel
  have h3 : errD (l ++ [uD nm, lD]) l (uD nm) = if nm = n_lost then 0 else 7 := by
    rw [err_user hA hn]
    simp only [lostL, List.mem_cons, List.not_mem_nil, or_false] at hn
    rcases hn with rfl | rfl | rfl <;> decide +kernel
  show (probS (l ++ [uD nm, lD]) (l.length + 1 + 1), (0 : Int)) = _
  unfold probS
  rw [h0, h0t, hl, if_pos rfl]
  unfold probS
  rw [h1, h2, h3, probX hA h32 (pastX hA)]
  by_cases hc : nm = n_lost
  · rw [if_pos hc, if_pos rfl, if_pos hc]
  · rw [if_neg hc, if_neg (by decide), if_neg hc]; rfl
end
theorem nameS_metal1 : nameS n_metal = true := by decide +kernel
theorem argAn {mem : List Row} {L : List Nat} {l k : Nat} {D : List Df} (hr : rowAt mem l = some (oRow cD 21 k (lF dD D))) (hk : D.length = k) (hL : l ∈ L) : ArgOk mem L (.agg 2 (nthP [vs n_metal, .lsl l 0 k])) (vA n_metal D) := argAgr (by have := arg_o (s := .own) (L := L) cD_cl hr trivial hL; rw [← hk] at this ⊢; exact this)
theorem checkU_f {hh : Nat} {l : List Df} {nm : ByteArray} (hA : AGood hh l) (h32 : hh ≤ 32) (hn : nm ∈ lostL) : PureF G.P 8 [vA n_metal (l ++ [uD nm])] (fun r => r = .tup 2 (nthP [vPr [((l.length : Int), 7)], vi 0])) := (check_f n_metal (l ++ [uD nm]) (by decide) (fun d hd => by
  rcases List.mem_append.1 hd with h | h
  · exact (hA.all d h).bd
  · obtain rfl : d = uD nm := by simpa using h
    exact user_bd nm hn)).mono (by rintro r rfl; rw [chk_user hA h32 nameS_metal1 hn])
def lostP (nm : ByteArray) (m : Int) : List (Int × Int) := if nm = n_lost then [] else [(m, 7)]
theorem checkL_f {hh : Nat} {l : List Df} {nm : ByteArray} (hA : AGood hh l) (h32 : hh ≤ 32) (hn : nm ∈ lostL) : PureF G.P 8 [vA n_metal (l ++ [uD nm, lD])] (fun r => r = .tup 2 (nthP [vPr (lostP nm l.length), vi 0])) := (check_f n_metal (l ++ [uD nm, lD]) (by decide) (fun d hd => by
  rcases List.mem_append.1 hd with h | h
  · exact (hA.all d h).bd
  · simp only [List.mem_cons, List.not_mem_nil, or_false] at h
    rcases h with rfl | rfl
    · exact user_bd nm hn
    · exact lost_bd)).mono (by rintro r rfl; rw [chk_lost hA h32 nameS_metal1 hn]; rfl)
theorem checkL2_f {hh : Nat} {l : List Df} {nm : ByteArray} (hA : AGood hh l) (h32 : hh ≤ 32) (hn : nm ∈ lostL) : PureF G.P 8 [vA n_metal ((l ++ [uD nm]) ++ [lD])] (fun r => r = .tup 2 (nthP [vPr (lostP nm l.length), vi 0])) := by
  rw [List.append_assoc]; exact checkL_f hA h32 hn
/-- the variable that holds the user -/
abbrev rU (nm : ByteArray) : Row := ⟨.own, true, 1, 21, fun _ => nthP [vi 3, vs n_user, vb false, vi 0, vi 0, vi 0, vi 20454, .val (.slice none 0 0), vi 3, vi 0, vi 0, vi 0, vi 0, vi 0, vs nm, vi 0, vi 0, .val (.slice none 0 0), vi 0, vi 0, vi 0]⟩
set_option maxHeartbeats 8000000 in
theorem needs_c (n : Nat) (g : Nat → Int) (hn : n ≤ 9223372036854775807) : PureC G.P 5 [.vsl n 1 (tI g)] (fun r => r = vb true) := by
  refine pure_of (G := G.toPg) (fn := Try.f5) Try.func5 rfl rfl rfl ?_; intro Γ hk
  repeat' (first | refine xo 4000 rfl ?_ ?_ | refine xw 4000 rfl ?_ ?_ | refine xk 4000 rfl ?_ ?_ | exact trivial | ((with_reducible (show AllP (_ :: _))); refine And.intro ?_ ?_) | refine xs rfl ?_ ?_ | refine xs_done ?_ | refine xs_last rfl rfl (stepOp_pst rfl ?_ ?_) | refine pcond_t rfl ?_ | refine pcond_f rfl ?_ | refine kround_exit ?_ | refine kround_ret ?_ | refine kround_next ?_ | refine kloop_ret ?_ | refine kloop_exit ?_ | refine kcut_ret ?_ | refine kcut_exit ?_ | refine xo0 4000 rfl ?_ ?_ | refine xw0 4000 rfl ?_ ?_ | exact qq | fail)
  refine pop_rowsc [] rfl rfl rfl rfl rfl rfl .nil (new_c n g) (by exact ⟨PEq.refl _, trivial⟩) ?_
  rintro r rows ⟨rfl, rfl⟩
  refine ⟨_, _, rfl, ⟨tape_cl _ _ _, trivial⟩, rfl, ?_⟩
  repeat' (first | refine xo 4000 rfl ?_ ?_ | refine xw 4000 rfl ?_ ?_ | refine xk 4000 rfl ?_ ?_ | exact trivial | ((with_reducible (show AllP (_ :: _))); refine And.intro ?_ ?_) | refine xs rfl ?_ ?_ | refine xs_done ?_ | refine xs_last rfl rfl (stepOp_pst rfl ?_ ?_) | refine pcond_t rfl ?_ | refine pcond_f rfl ?_ | refine kround_exit ?_ | refine kround_ret ?_ | refine kround_next ?_ | refine kloop_ret ?_ | refine kloop_exit ?_ | refine kcut_ret ?_ | refine kcut_exit ?_ | refine xo0 4000 rfl ?_ ?_ | refine xw0 4000 rfl ?_ ?_ | exact qq | fail)
  refine pop_rowsd [0] rfl rfl rfl rfl rfl rfl (by exact .cons rfl trivial (RowEq.cl (tape_cl _ _ _)) .nil) (agreement4_r 2 (by omega) false n g 0 hn (by omega) (by omega)) (by exact ⟨PEq.refl _, PEq.refl _, PEq.refl _, trivial⟩) ?_
  rintro r rows ⟨at_, k, l, b1, b2, hlk, hA, rfl, rfl⟩
  refine ⟨[tapeRow n g at_, rA (k + 1) 2, oRow cD 21 (k + 1) (lF dD l)], _, .agg 2 (nthP [vs n_metal, .lsl 2 0 (k + 1)]), ⟨RowEq.cl (tape_cl _ _ _), rA_eq rfl, RowEq.cl (o_cl cD_cl _ _ _), trivial⟩, rfl, peqA rfl, ?_⟩
  have hk30 := hA.l1
  repeat' (first | refine xo 4000 rfl ?_ ?_ | refine xw 4000 rfl ?_ ?_ | refine xk 4000 rfl ?_ ?_ | exact trivial | ((with_reducible (show AllP (_ :: _))); refine And.intro ?_ ?_) | refine xs rfl ?_ ?_ | refine xs_done ?_ | refine xs_last rfl rfl (stepOp_pst rfl ?_ ?_) | (refine pop_tap (G := G) rfl rfl rfl rfl rfl rfl rfl rfl (fun _ => rfl) (next_t _ (by omega)) hn (by assumption) (by assumption) rfl rfl ?_; rintro at_ _ b1 b2 ⟨x, rfl, hx1, hx2⟩) | refine pcond_t rfl ?_ | refine pcond_f rfl ?_ | refine kround_exit ?_ | refine kround_ret ?_ | refine kround_next ?_ | refine kloop_ret ?_ | refine kloop_exit ?_ | refine kcut_ret ?_ | refine kcut_exit ?_ | refine xo0 4000 rfl ?_ ?_ | refine xw0 4000 rfl ?_ ?_ | exact qq | fail)
  obtain ⟨x, rfl⟩ : ∃ y : Nat, x = y := ⟨x.toNat, by omega⟩
  rcases (by omega : x = 0 ∨ x = 1 ∨ x = 2) with rfl | rfl | rfl
  all_goals
    repeat' (first | refine xo 4000 rfl ?_ ?_ | refine xw 4000 rfl ?_ ?_ | refine xk 4000 rfl ?_ ?_ | exact trivial | ((with_reducible (show AllP (_ :: _))); refine And.intro ?_ ?_) | refine xs rfl ?_ ?_ | refine xs_done ?_ | refine xs_last rfl rfl (stepOp_pst rfl ?_ ?_) | exact ⟨Nat.le_refl _, (by rw [hk]; exact Nat.le_of_ble_eq_true rfl), Nat.le_of_eq (Nat.zero_add _), (show (_ : Nat) * 216 ≤ 140737488355328 from by omega), (show (_ : Nat) ≤ 9223372036854775807 from by omega)⟩ | refine pcond_t rfl ?_ | refine pcond_f rfl ?_ | refine kround_exit ?_ | refine kround_ret ?_ | refine kround_next ?_ | refine kloop_ret ?_ | refine kloop_exit ?_ | refine kcut_ret ?_ | refine kcut_exit ?_ | refine xo0 4000 rfl ?_ ?_ | refine xw0 4000 rfl ?_ ?_ | exact qq | fail)
    refine ocan2 (st' := ⟨[(4, .ptr 2 0 0), (5, .ptr 3 0 0), (29, .agg 2 (nthP [vs n_metal, .lsl 1 0 (k + 1 + 1)]))], [tapeRow n g at_, vRow cD 21 (k + 1 + 1) (lF dD (l ++ [uD _])), rA (k + 1 + 1) 1, rU _]⟩) (can_rowsv [0, 7, 3, 5] (k0_sel (show Γ.k0 = 0 from hk) rfl) rfl (.cons rfl (RowEq.cl (tape_cl _ _ _)) (.cons rfl (app_p cD_cl hlk (fun b hb => by rcases split21 hb with rfl | rfl | rfl | rfl | rfl | rfl | rfl | rfl | rfl | rfl | rfl | rfl | rfl | rfl | rfl | rfl | rfl | rfl | rfl | rfl | rfl <;> first | exact PEq.refl _ | exact peq_nil) rfl) (.cons rfl rqq (.cons rfl rqq .nil)))) (by exact ⟨PEq.refl _, PEq.refl _, peqA rfl, trivial⟩)) ?_
    refine pop_callF [1] rfl rfl rfl rfl rfl (checkU_f hA (by omega) (by simp [lostL])) ⟨argAn rfl (by simp [hlk]) (List.Mem.head _), trivial⟩ ?_
    rintro _ rfl
    repeat' (first | refine xo 4000 rfl ?_ ?_ | refine xw 4000 rfl ?_ ?_ | refine xk 4000 rfl ?_ ?_ | exact trivial | ((with_reducible (show AllP (_ :: _))); refine And.intro ?_ ?_) | refine xs rfl ?_ ?_ | refine xs_done ?_ | refine xs_last rfl rfl (stepOp_pst rfl ?_ ?_) | exact ⟨Nat.le_refl _, (by rw [hk]; exact Nat.le_of_ble_eq_true rfl), Nat.le_of_eq (Nat.zero_add _), (show (_ : Nat) * 216 ≤ 140737488355328 from by omega), (show (_ : Nat) ≤ 9223372036854775807 from by omega)⟩ | refine pcond_t rfl ?_ | refine pcond_f rfl ?_ | refine kround_exit ?_ | refine kround_ret ?_ | refine kround_next ?_ | refine kloop_ret ?_ | refine kloop_exit ?_ | refine kcut_ret ?_ | refine kcut_exit ?_ | refine xo0 4000 rfl ?_ ?_ | refine xw0 4000 rfl ?_ ?_ | exact qq | fail)
    refine ocan2 (st' := ⟨[(4, .ptr 1 0 0), (5, .ptr 2 0 0), (6, vPr [((l.length : Int), 7)]), (7, vi 0), (40, .agg 2 (nthP [vs n_metal, .lsl 0 0 (k + 1 + 1 + 1)]))], [vRow cD 21 (k + 1 + 1 + 1) (lF dD ((l ++ [uD _]) ++ [lD])), rA (k + 1 + 1 + 1) 0, rU _]⟩) (can_rowsv [5, 2, 3] (k0_sel (show Γ.k0 = 0 from hk) rfl) rfl (.cons rfl (app_p cD_cl (l := l ++ [uD _]) (y := lD) (by simp [hlk]) (fun b hb => by rcases split21 hb with rfl | rfl | rfl | rfl | rfl | rfl | rfl | rfl | rfl | rfl | rfl | rfl | rfl | rfl | rfl | rfl | rfl | rfl | rfl | rfl | rfl <;> first | exact PEq.refl _ | exact peq_nil) rfl) (.cons rfl rqq (.cons rfl rqq .nil))) (by exact ⟨PEq.refl _, PEq.refl _, PEq.refl _, PEq.refl _, peqA rfl, trivial⟩)) ?_
    refine pop_callF [0] rfl rfl rfl rfl rfl (checkL2_f hA (by omega) (by simp [lostL])) ⟨argAn rfl (by simp [hlk]) (List.Mem.head _), trivial⟩ ?_
    rintro _ rfl
    first | rw [show lostP n_lost (l.length : Int) = [] from if_pos rfl] | rw [show lostP n_w (l.length : Int) = [((l.length : Int), 7)] from if_neg (by decide)] | rw [show lostP n_gross (l.length : Int) = [((l.length : Int), 7)] from if_neg (by decide)]
    repeat' (first | refine xo 4000 rfl ?_ ?_ | refine xw 4000 rfl ?_ ?_ | refine xk 4000 rfl ?_ ?_ | exact trivial | ((with_reducible (show AllP (_ :: _))); refine And.intro ?_ ?_) | refine xs rfl ?_ ?_ | refine xs_done ?_ | refine xs_last rfl rfl (stepOp_pst rfl ?_ ?_) | refine xs_start (id := 9) true [.take 0, .take 1, .take 2, .take 3, .take 4, .take 5, .take 6, .take 7, .take 8, .take 9, .take 10, .take 11, .take 12, .take 13, .take 14, .take 15, .take 16, .take 17, .take 18, .take 19, .take 20, .take 21, .take 22, .take 23, .take 24, .take 25, .take 26, .take 27, .take 28, .take 29, .one 30, .take 31, .take 32] 0 rfl rfl (by kernel_rfl) ?_ | (intro h; first | exact ⟨h, Int.le_refl _, (show (0 : Int) < 1 from by decide)⟩ | exact ⟨Int.le_refl _, (show (0 : Int) < 1 from by decide)⟩ | exact ⟨h, (show (0 : Nat) < 1 from by decide)⟩ | exact ⟨h, h, (show (0 : Nat) < 1 from by decide)⟩) | refine pop_callv rfl rfl rfl rfl rfl (sane20_c) rfl rfl rfl ?_ | refine xs_call rfl rfl rfl rfl rfl rfl (sane20_c) rfl rfl rfl ?_ | refine xs_one (ch := []) rfl rfl rfl (pst_callv rfl rfl rfl rfl rfl (sane20_c) rfl rfl rfl ?_) | refine pop_callgv rfl rfl rfl rfl rfl rfl (fun _ => sane20_c) (by first | exact fun h => ⟨h, trivial⟩ | exact fun _ => trivial | exact fun h => ⟨h, h, trivial⟩) rfl rfl rfl ?_ | refine xs_one (ch := []) rfl rfl rfl (pst_callgv rfl rfl rfl rfl rfl rfl (fun _ => sane20_c) (by first | exact fun h => ⟨h, trivial⟩ | exact fun _ => trivial | exact fun h => ⟨h, h, trivial⟩) rfl rfl rfl ?_) | refine pcond_t rfl ?_ | refine pcond_f rfl ?_ | refine kround_exit ?_ | refine kround_ret ?_ | refine kround_next ?_ | refine kloop_ret ?_ | refine kloop_exit ?_ | refine kcut_ret ?_ | refine kcut_exit ?_ | refine xo0 4000 rfl ?_ ?_ | refine xw0 4000 rfl ?_ ?_ | exact qq | fail)
    refine xdone ?_
    have hwk : IntKind.i64.wrap (((k + 1 + 1 + 1 : Nat) : Int) - 2) = (l.length : Int) := by rw [w64 (by omega) (by omega)]; omega
    refine kretv rfl ⟨trivial, trivial⟩ rfl (eqB ?_)
    rw [hwk]
    simp [lF]
theorem needs_walk (v : Value) (l : List Int) (w : World) (h : IntsAt w v l) : Calls G.P 5 #[v] w fun e w' => e = .returned (.bool true) ∧ Ext w w' := by
  have hl : l.length ≤ 9223372036854775807 := by obtain ⟨_, _, _, _, h, _⟩ := h; exact h
  exact law_of (vs := [v]) (needs_c l.length _ hl) ⟨h.rel _, trivial⟩
open Go.ChangeShapes Go.WideShapes Go.ChangeAt Go.RowKit Go.Joins
open Go.ChangeMaps (open_string shut_string)
theorem checkNeeds_own : ownKnob Try.prog.godebug = none := by kernel_rfl
theorem checkNeeds_laidOut : laidOutB Try.prog = true := by kernel_rfl
theorem checkNeeds_bd {n : Int} (h : (Lit.int .i64 n).wf = true) : -9223372036854775808 ≤ n ∧ n ≤ 9223372036854775807 := bounds_i64 h
set_option maxRecDepth 100000 in
theorem checkNeeds_lifted (os : Os) (started : os.Started) (H : Type) (enc : TypeId × Value → H) :
    ReturnsInHanded {} Try.checked os 5 .any (Rows.checkNeedsSpec.pre6 enc Try.prog Try.f5 Rows.checkNeedsRow.domain false) (Rows.checkNeedsSpec.post enc Try.prog Try.f5 false true false false) := by
  refine returnsInHanded_of_change (C := Try.checked) checkNeeds_own started (by kernel_rfl) Try.func5
    (ChangeSpec.witness6 (enc := enc) (C := Try.checked) false ⟨#[], #[.slice none 0 0], []⟩ 8 (by kernel_rfl) (by kernel_rfl) (by kernel_rfl) (by kernel_rfl)) ?_
  intro W base args ds gs before hval0 hW hcnd _
  have hval : ∀ (j : Nat) t v, Try.f5.params[j]? = some t → args[j]? = some v → Value.okWide Try.prog W .any base t v := hval0
  have hW' := hW
  obtain ⟨p, q, hA0, hV, rfl, hfz, hnd⟩ := hW
  have hA : DataW.TrodAll enc Try.prog W 0 (fun _ => true) true Try.f5.params.toList args.toList ds p := hA0
  rw [Try.params5] at hA hval
  obtain ⟨v0, vs0, d0, ds0, p0, q0, hargs, rfl, rfl, h0, r0⟩ := trodAll_cons hA
  obtain ⟨rfl, rfl, rfl⟩ := trodAll_nil r0
  obtain rfl : args = #[v0] := by cases args; simp_all
  obtain ⟨rfl, rfl⟩ := trodVars_none hV
  have k0 := h0
  have lt0 : ∀ x ∈ p0, x.block < W.heap.size := by obtain ⟨m, hm⟩ := k0; exact DataW.trod_lt m _ _ _ hm
  obtain ⟨a0, len0, cap0, rfl⟩ := okWide_slice Try.underlying22 (hval 0 22 v0 rfl rfl)
  obtain ⟨z0, w0⟩ : ∃ zs : List Int, IntsAt W (.slice a0 len0 cap0) zs := by
    obtain ⟨fuel, hf⟩ := h0
    rcases open_ints Try.underlying22 Try.underlying3 (by kernel_rfl) hf with ⟨hcs, _⟩ | ⟨x, l, c, zs, hcs, _, hl, hm, hz, _, hcell, hwz⟩
    · simp [Value.cells] at hcs
      obtain ⟨rfl, rfl, rfl⟩ := hcs
      exact ⟨[], intsAt_of_row (zs := []) (.inl ⟨rfl, rfl, rfl, rfl⟩)⟩
    · simp [Value.cells] at hcs
      obtain ⟨rfl, rfl, rfl⟩ := hcs
      exact ⟨zs.take _, intsAt_of_row (.inr ⟨_, rfl, hl, hm, by simpa using hz, hcell, hwz⟩)⟩
  clear hA0 hval0
  refine (needs_walk _ z0 W w0).mono fun e W' ⟨he, bel⟩ => ?_
  subst he
  exact ⟨_, rfl, _, _, _, [], _, [], hW', trodAll_mk1 (shut_bool Try.underlying4 _), (trodAll_cons_mk (Below.trod checkNeeds_laidOut (by kernel_rfl) (of_decide_eq_true (by kernel_rfl)) k0 bel lt0) trodAll_mk0), rfl, bel.frame _, fun h => by cases h⟩

theorem checkNeeds_proved : Rows.CheckNeedsSaid :=
  OpenClaim.holds_of_wide 5 Try.f5 rfl rfl rfl rfl rfl rfl rfl ⟨rfl, rfl, rfl, rfl, rfl⟩ rfl rfl rfl rfl rfl (by kernel_rfl) Try.func5 (by kernel_rfl)
    (of_decide_eq_true (by kernel_rfl)) (by unfold Func.isWrapper; first | (rw [if_pos (by decide +kernel)]; kernel_rfl) | (rw [if_neg (by decide +kernel)]; exact ⟨rfl, rfl⟩))
    (fun os started H enc _ => checkNeeds_lifted os started H enc)
#print axioms checkNeeds_proved
end Go.Proofs.Ytnlcenlamkfmnaa
