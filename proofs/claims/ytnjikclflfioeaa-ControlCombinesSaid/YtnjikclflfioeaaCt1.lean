/- control.Combine. -/
import Derived.Test.YtnjikclflfioeaaKs0
import Derived.Test.YtnjikclflfioeaaCt0
set_option linter.unusedSimpArgs false
set_option linter.unusedVariables false
set_option maxRecDepth 100000
namespace Go.Proofs.Ytnjikclflfioeaa
section
variable {K : Type} [DecidableEq K]
theorem mget_mset (k k' : K) (v : Int) : ∀ l : List (K × Int), mget (mset l k v) k' = if k = k' then some v else mget l k'
  | [] => by simp [mset, mget]
  | e :: l => by
    by_cases h : e.1 = k
    · rw [mset, if_pos h, mget]
      by_cases h2 : k = k'
      · rw [if_pos h2, if_pos h2]
      · rw [if_neg h2, if_neg h2, mget, if_neg (by rw [h]; exact h2)]
    · rw [mset, if_neg h, mget, mget_mset k k' v l, mget]
      by_cases h2 : e.1 = k'
      · rw [if_pos h2, if_pos h2, if_neg (fun e2 => h (h2.trans e2.symm))]
      · rw [if_neg h2, if_neg h2]
theorem mem_mset (k : K) (v : Int) (e : K × Int) : ∀ l : List (K × Int), e ∈ mset l k v → e = (k, v) ∨ e ∈ l
  | [], h => by simp [mset] at h; exact .inl h
  | x :: l, h => by
    by_cases h1 : x.1 = k
    · rw [mset, if_pos h1] at h
      rcases List.mem_cons.1 h with h | h
      · exact .inl h
      · exact .inr (List.mem_cons_of_mem _ h)
    · rw [mset, if_neg h1] at h
      rcases List.mem_cons.1 h with h | h
      · exact .inr (by rw [h]; simp)
      · rcases mem_mset k v e l h with h | h
        · exact .inl h
        · exact .inr (List.mem_cons_of_mem _ h)
theorem len_mset (k : K) (v : Int) : ∀ l : List (K × Int), (mset l k v).length ≤ l.length + 1
  | [] => by simp [mset]
  | x :: l => by
    by_cases h1 : x.1 = k
    · rw [mset, if_pos h1]; simp
    · rw [mset, if_neg h1]; have := len_mset k v l; simp; omega
theorem nd_mset (k : K) (v : Int) : ∀ l : List (K × Int), (l.map (·.1)).Nodup → ((mset l k v).map (·.1)).Nodup
  | [], _ => by simp [mset]
  | x :: l, h => by
    simp only [List.map_cons, List.nodup_cons] at h
    by_cases h1 : x.1 = k
    · rw [mset, if_pos h1, List.map_cons, List.nodup_cons]; exact ⟨by rw [← h1]; exact h.1, h.2⟩
    · rw [mset, if_neg h1, List.map_cons, List.nodup_cons]
      refine ⟨fun hm => ?_, nd_mset k v l h.2⟩
      obtain ⟨e, he, he2⟩ := List.mem_map.1 hm
      rcases mem_mset k v e l he with rfl | he
      · exact h1 he2.symm
      · exact h.1 (List.mem_map.2 ⟨e, he, he2⟩)
theorem mget_mem {k : K} : ∀ {l : List (K × Int)}, k ∈ l.map (·.1) ↔ (mget l k).isSome = true
  | [] => by simp [mget]
  | e :: l => by
    rw [mget, List.map_cons, List.mem_cons]
    by_cases h : e.1 = k
    · rw [if_pos h]; simp [h]
    · rw [if_neg h, ← mget_mem (l := l)]; simp [Ne.symm h]
end
/-- what an employee gets -/
def sumE (n : Nat) (g : Nat → Pay) (k : Int) : Int := sumN n (fun i => if (g i).1 = k then (g i).2 else 0)
def occE (n : Nat) (g : Nat → Pay) (k : Int) : Prop := ∃ i, i < n ∧ (g i).1 = k
/-- the map of the sums -/
structure SumM (n : Nat) (g : Nat → Pay) (m : List (Int × Int)) : Prop where
  nd : (m.map (·.1)).Nodup
  len : m.length ≤ n
  val : ∀ k, (mget m k).getD 0 = sumE n g k
  occ : ∀ k, (mget m k).isSome = true ↔ occE n g k
theorem sumE_bd {n : Nat} {g : Nat → Pay} (h : ∀ j, j < n → payOk (g j) = true) (k : Int) : 0 ≤ sumE n g k ∧ sumE n g k ≤ n * 1000000000000 := by
  refine ⟨sumN_nonneg fun j hj => ?_, ?_⟩
  · have := payOk_iff.1 (h j hj); split <;> omega
  · have := sumN_le (n := n) (f := fun i => if (g i).1 = k then (g i).2 else 0) (g := fun _ => 1000000000000) fun j hj => by
      have := payOk_iff.1 (h j hj)
      show (if (g j).1 = k then (g j).2 else 0) ≤ 1000000000000
      split <;> omega
    rw [sumN_const] at this; exact this
theorem sumE_none {n : Nat} {g : Nat → Pay} {k : Int} (h : ¬ occE n g k) : sumE n g k = 0 := by
  have : sumE n g k = sumN n (fun _ => 0) := sumN_congr fun i hi => if_neg fun e => h ⟨i, hi, e⟩
  rw [this, sumN_const]; omega
theorem SumM.start (g : Nat → Pay) : SumM 0 g [] := ⟨by simp, by simp, fun k => rfl, fun k => ⟨fun h => by simp [mget] at h, fun ⟨i, hi, _⟩ => by omega⟩⟩
theorem SumM.step {n : Nat} {g : Nat → Pay} {m : List (Int × Int)} (h : SumM n g m) : SumM (n + 1) g (mset m (g n).1 (sumE n g (g n).1 + (g n).2)) := by
  have hs : ∀ k, sumE (n + 1) g k = sumE n g k + (if (g n).1 = k then (g n).2 else 0) := fun k => rfl
  have ho : ∀ k, occE (n + 1) g k ↔ occE n g k ∨ (g n).1 = k := fun k => by
    constructor
    · rintro ⟨i, hi, e⟩
      by_cases h1 : i = n
      · subst h1; exact .inr e
      · exact .inl ⟨i, by omega, e⟩
    · rintro (⟨i, hi, e⟩ | e)
      · exact ⟨i, by omega, e⟩
      · exact ⟨n, by omega, e⟩
  refine ⟨nd_mset _ _ _ h.nd, by have := len_mset (g n).1 (sumE n g (g n).1 + (g n).2) m; have := h.len; omega, fun k => ?_, fun k => ?_⟩
  · rw [mget_mset]
    by_cases e : (g n).1 = k
    · subst e
      rw [if_pos rfl, hs, if_pos rfl]; rfl
    · rw [if_neg e, h.val, hs, if_neg e, Int.add_zero]
  · rw [mget_mset, ho]
    by_cases e : (g n).1 = k
    · rw [if_pos e]; simp [e]
    · rw [if_neg e, h.occ]; simp [e]
/-- what combining gives -/
structure CombR (n : Nat) (g : Nat → Pay) (L : List Pay) : Prop where
  srt : (L.map (·.1)).Pairwise (· < ·)
  occ : ∀ k, k ∈ L.map (·.1) ↔ occE n g k
  val : ∀ p, p ∈ L → p.2 = sumE n g p.1 ∧ p.2 ≤ 1000000000000
abbrev resF (n : Nat) (g : Nat → Pay) (ks : List Int) (a : Nat) : Pay := (lF 0 ks a, sumE n g (lF 0 ks a))
def CombP (n : Nat) (g : Nat → Pay) (L : List Pay) (e : Int) : Prop :=
  ((ofS n g).2 ≠ 0 ∧ e = (ofS n g).2 ∧ L = []) ∨ ((ofS n g).2 = 0 ∧ ((e = 0 ∧ CombR n g L) ∨ (e = 4 ∧ L = [] ∧ ∃ k, 1000000000000 < sumE n g k)))
def mapII : MapT G.P 56 kI := ⟨3, 3, _, Try.underlying56, Try.underlying3, fun _ => rfl, kI_inj, Try.zeroValue3⟩
theorem ofS_zero {n : Nat} {g : Nat → Pay} (h : (ofS n g).2 = 0) : n ≤ 4096 ∧ ∀ j, j < n → payOk (g j) = true := by
  unfold ofS at h
  split at h
  · cases h
  · split at h
    · rename_i h1 h2; exact ⟨by omega, paysOk_iff.1 h2⟩
    · cases h
theorem strict_of {l : List Int} (h1 : l.Pairwise (· ≤ ·)) (h2 : l.Nodup) : l.Pairwise (· < ·) := by
  refine (h1.and h2).imp fun h => ?_
  have := h.1; have := h.2; omega
set_option maxHeartbeats 1000000 in
theorem comb_c (C : KeysSorted G.P 29 28 36 56 3) (n : Nat) (g : Nat → Pay) (hn : n ≤ 9223372036854775807) : PureC G.P 12 [vPs n g] (fun r => ∃ L e, r = .tup 2 (nthP [vPs L.length (lF dP L), vi e]) ∧ CombP n g L e) := by
  have ho := of_c n g hn
  obtain ⟨X, hX⟩ : ∃ X, X = ofS n g := ⟨_, rfl⟩
  rw [← hX] at ho
  refine pure_of (G := G.toPg) (fn := Try.f12) Try.func12 rfl rfl rfl ?_; intro Γ hk
  repeat' (first | refine xo 4000 rfl ?_ ?_ | refine xw 4000 rfl ?_ ?_ | refine xk 4000 rfl ?_ ?_ | exact trivial | ((with_reducible (show AllP (_ :: _))); refine And.intro ?_ ?_) | refine xs rfl ?_ ?_ | refine xs_done ?_ | refine pop_callv rfl rfl rfl rfl rfl (ho) rfl rfl rfl ?_ | refine xs_call rfl rfl rfl rfl rfl rfl (ho) rfl rfl rfl ?_ | refine xs_one (ch := []) rfl rfl rfl (pst_callv rfl rfl rfl rfl rfl (ho) rfl rfl rfl ?_) | refine pop_callgv rfl rfl rfl rfl rfl rfl (fun _ => ho) (by first | exact fun h => ⟨h, trivial⟩ | exact fun _ => trivial | exact fun h => ⟨h, h, trivial⟩) rfl rfl rfl ?_ | refine xs_one (ch := []) rfl rfl rfl (pst_callgv rfl rfl rfl rfl rfl rfl (fun _ => ho) (by first | exact fun h => ⟨h, trivial⟩ | exact fun _ => trivial | exact fun h => ⟨h, h, trivial⟩) rfl rfl rfl ?_) | refine pcond_t rfl ?_ | refine pcond_f rfl ?_ | refine kround_exit ?_ | refine kround_ret ?_ | refine kround_next ?_ | refine kloop_ret ?_ | refine kloop_exit ?_ | refine kcut_ret ?_ | refine kcut_exit ?_ | refine xo0 4000 rfl ?_ ?_ | refine xw0 4000 rfl ?_ ?_ | exact qq | fail)
  refine pcond rfl ?_ ?_ <;> intro hc
  · have h0 : X.2 ≠ 0 := by simpa using hc
    repeat' (first | refine xo 4000 rfl ?_ ?_ | refine xw 4000 rfl ?_ ?_ | refine xk 4000 rfl ?_ ?_ | exact trivial | ((with_reducible (show AllP (_ :: _))); refine And.intro ?_ ?_) | refine xs rfl ?_ ?_ | refine xs_done ?_ | refine pcond_t rfl ?_ | refine pcond_f rfl ?_ | refine kround_exit ?_ | refine kround_ret ?_ | refine kround_next ?_ | refine kloop_ret ?_ | refine kloop_exit ?_ | refine kcut_ret ?_ | refine kcut_exit ?_ | refine xo0 4000 rfl ?_ ?_ | refine xw0 4000 rfl ?_ ?_ | exact qq | fail)
    refine xdone ?_
    refine kret [] rfl ⟨trivial, trivial, trivial⟩ (qs := [vPs 0 (lF dP []), vi X.2]) ⟨argNil, argVal, trivial⟩ ?_
    exact ⟨[], X.2, rfl, .inl ⟨by rw [← hX]; exact h0, by rw [hX], rfl⟩⟩
  · have h0 : X.2 = 0 := by simpa using hc
    obtain ⟨hn1, hok⟩ := ofS_zero (hX ▸ h0)
    repeat' (first | refine xo 4000 rfl ?_ ?_ | refine xw 4000 rfl ?_ ?_ | refine xk 4000 rfl ?_ ?_ | exact trivial | ((with_reducible (show AllP (_ :: _))); refine And.intro ?_ ?_) | refine xs rfl ?_ ?_ | refine xs_done ?_ | refine pcond_t rfl ?_ | refine pcond_f rfl ?_ | refine kround_exit ?_ | refine kround_ret ?_ | refine kround_next ?_ | refine kloop_ret ?_ | refine kloop_exit ?_ | refine kcut_ret ?_ | refine kcut_exit ?_ | refine xo0 4000 rfl ?_ ?_ | refine xw0 4000 rfl ?_ ?_ | exact qq | fail)
    refine pop_mkmap kI rfl rfl rfl rfl rfl ?_
    repeat' (first | refine xo 4000 rfl ?_ ?_ | refine xw 4000 rfl ?_ ?_ | refine xk 4000 rfl ?_ ?_ | exact trivial | ((with_reducible (show AllP (_ :: _))); refine And.intro ?_ ?_) | refine xs rfl ?_ ?_ | refine xs_done ?_ | refine pcond_t rfl ?_ | refine pcond_f rfl ?_ | refine kround_exit ?_ | refine kround_ret ?_ | refine kround_next ?_ | refine kloop_ret ?_ | refine kloop_exit ?_ | refine kcut_ret ?_ | refine kcut_exit ?_ | refine xo0 4000 rfl ?_ ?_ | refine xw0 4000 rfl ?_ ?_ | exact qq | fail)
    refine pcan (st' := ⟨[(6, .mref 0), (21, vPs n g), (22, vi n), (23, vi ((0 : Nat) : Int))], [mRow kI []]⟩) (can_rowsv [1] (k0_sel hk rfl) rfl (.cons rfl m_eq .nil) tmq) ?_
    refine ploop (fun q st => ∃ (i : Nat) (m : List (Int × Int)), i ≤ n ∧ SumM i g m ∧ q = n - i ∧ st = ⟨[(6, .mref 0), (21, vPs n g), (22, vi n), (23, vi i)], [mRow kI m]⟩) n ⟨0, [], by omega, .start g, rfl, rfl⟩ ?_
    rintro _ _ ⟨i, m, hi, hM, rfl, rfl⟩
    repeat' (first | refine xo 4000 rfl ?_ ?_ | refine xw 4000 rfl ?_ ?_ | refine xk 4000 rfl ?_ ?_ | exact trivial | ((with_reducible (show AllP (_ :: _))); refine And.intro ?_ ?_) | refine xs rfl ?_ ?_ | refine xs_done ?_ | refine pcond_t rfl ?_ | refine pcond_f rfl ?_ | refine kround_exit ?_ | refine kround_ret ?_ | refine kround_next ?_ | refine kloop_ret ?_ | refine kloop_exit ?_ | refine kcut_ret ?_ | refine kcut_exit ?_ | refine xo0 4000 rfl ?_ ?_ | refine xw0 4000 rfl ?_ ?_ | exact qq | fail)
    refine pcond rfl ?_ ?_ <;> intro hc2 <;> simp at hc2
    · have hp := payOk_iff.1 (hok i hc2)
      have hb := sumE_bd (n := i) (g := g) (fun j hj => hok j (by omega)) (g i).1
      have hw : IntKind.i64.wrap ((mget m (g i).1).getD 0 + (g (i : Int).toNat).2) = sumE i g (g i).1 + (g i).2 := by
        rw [hM.val]; show IntKind.i64.wrap (sumE i g (g i).1 + (g i).2) = _; rw [w64 (by omega) (by omega)]
      repeat' (first | refine xo 4000 rfl ?_ ?_ | refine xw 4000 rfl ?_ ?_ | refine xk 4000 rfl ?_ ?_ | exact trivial | ((with_reducible (show AllP (_ :: _))); refine And.intro ?_ ?_) | refine xs rfl ?_ ?_ | refine xs_done ?_ | refine pcond_t rfl ?_ | refine pcond_f rfl ?_ | refine kround_exit ?_ | refine kround_ret ?_ | refine kround_next ?_ | refine kloop_ret ?_ | refine kloop_exit ?_ | refine kcut_ret ?_ | refine kcut_exit ?_ | refine xo0 4000 rfl ?_ ?_ | refine xw0 4000 rfl ?_ ?_ | exact qq | fail)
      refine pop_look mapII false (g i).1 rfl rfl rfl rfl rfl rfl rfl ?_
      repeat' (first | refine xo 4000 rfl ?_ ?_ | refine xw 4000 rfl ?_ ?_ | refine xk 4000 rfl ?_ ?_ | exact trivial | ((with_reducible (show AllP (_ :: _))); refine And.intro ?_ ?_) | refine xs rfl ?_ ?_ | refine xs_done ?_ | refine pcond_t rfl ?_ | refine pcond_f rfl ?_ | refine kround_exit ?_ | refine kround_ret ?_ | refine kround_next ?_ | refine kloop_ret ?_ | refine kloop_exit ?_ | refine kcut_ret ?_ | refine kcut_exit ?_ | refine xo0 4000 rfl ?_ ?_ | refine xw0 4000 rfl ?_ ?_ | exact qq | fail)
      rw [hw]
      refine pop_mset mapII (g i).1 (sumE i g (g i).1 + (g i).2) rfl rfl rfl rfl rfl rfl rfl (by rw [hk]; exact Nat.zero_le _) rfl rfl ?_
      repeat' (first | refine xo 4000 rfl ?_ ?_ | refine xw 4000 rfl ?_ ?_ | refine xk 4000 rfl ?_ ?_ | exact trivial | ((with_reducible (show AllP (_ :: _))); refine And.intro ?_ ?_) | refine xs rfl ?_ ?_ | refine xs_done ?_ | refine pcond_t rfl ?_ | refine pcond_f rfl ?_ | refine kround_exit ?_ | refine kround_ret ?_ | refine kround_next ?_ | refine kloop_ret ?_ | refine kloop_exit ?_ | refine kcut_ret ?_ | refine kcut_exit ?_ | refine xo0 4000 rfl ?_ ?_ | refine xw0 4000 rfl ?_ ?_ | exact qq | fail)
      rw [show IntKind.i64.wrap ((i : Int) + 1) = ((i + 1 : Nat) : Int) from w64 (by omega) (by omega)]
      exact kloop_next (st' := ⟨[(6, .mref 0), (21, vPs n g), (22, vi n), (23, vi ((i + 1 : Nat) : Int))], [mRow kI (mset m (g i).1 (sumE i g (g i).1 + (g i).2))]⟩) (n - (i + 1)) (can_rowsv [0] (k0_sel hk rfl) rfl (.cons rfl m_eq .nil) tmq) (by omega) ⟨i + 1, _, by omega, hM.step, rfl, rfl⟩
    · have hin : i = n := by omega
      subst hin
      repeat' (first | refine xo 4000 rfl ?_ ?_ | refine xw 4000 rfl ?_ ?_ | refine xk 4000 rfl ?_ ?_ | exact trivial | ((with_reducible (show AllP (_ :: _))); refine And.intro ?_ ?_) | refine xs rfl ?_ ?_ | refine xs_done ?_ | refine pcond_t rfl ?_ | refine pcond_f rfl ?_ | refine kround_exit ?_ | refine kround_ret ?_ | refine kround_next ?_ | refine kloop_ret ?_ | refine kloop_exit ?_ | refine kcut_ret ?_ | refine kcut_exit ?_ | refine xo0 4000 rfl ?_ ?_ | refine xw0 4000 rfl ?_ ?_ | exact qq | fail)
      refine pop_keys C rfl rfl rfl rfl rfl rfl rfl rfl rfl rfl rfl rfl (fun e he => ?_) (by have := hM.len; omega) ?_
      · have h1 := (hM.occ e.1).1 (mget_mem.1 (List.mem_map.2 ⟨e, he, rfl⟩))
        obtain ⟨j, hj, hje⟩ := h1
        have := payOk_iff.1 (hok j hj)
        omega
      intro ks hks1 hks2
      have hst : ks.Pairwise (· < ·) := strict_of hks2 (hks1.nodup_iff.2 hM.nd)
      have hocc : ∀ k, k ∈ ks ↔ occE i g k := fun k => by rw [hks1.mem_iff, mget_mem, hM.occ]
      have hlen : ks.length ≤ i := by rw [hks1.length_eq, List.length_map]; exact hM.len
      obtain ⟨kn, hkn⟩ : ∃ kn, kn = ks.length := ⟨_, rfl⟩
      rw [← hkn]
      rcases kn with _ | kn
      · repeat' (first | refine xo 4000 rfl ?_ ?_ | refine xw 4000 rfl ?_ ?_ | refine xk 4000 rfl ?_ ?_ | exact trivial | ((with_reducible (show AllP (_ :: _))); refine And.intro ?_ ?_) | refine xs rfl ?_ ?_ | refine xs_done ?_ | refine pcond_t rfl ?_ | refine pcond_f rfl ?_ | refine kround_exit ?_ | refine kround_ret ?_ | refine kround_next ?_ | refine kloop_ret ?_ | refine kloop_exit ?_ | refine kcut_ret ?_ | refine kcut_exit ?_ | refine xo0 4000 rfl ?_ ?_ | refine xw0 4000 rfl ?_ ?_ | exact qq | fail)
        have : ks = [] := List.length_eq_zero_iff.1 hkn.symm
        subst this
        refine pcan (st' := ⟨[(9, .val (.slice none 0 0)), (38, vi ((0 : Nat) : Int)), (39, vi 0)], []⟩) (can_rowsv [] (k0_sel hk rfl) rfl .nil tmq) ?_
        refine ploop (fun q st => q = 0 ∧ st = ⟨[(9, .val (.slice none 0 0)), (38, vi ((0 : Nat) : Int)), (39, vi 0)], []⟩) 0 ⟨rfl, rfl⟩ ?_
        rintro _ _ ⟨rfl, rfl⟩
        repeat' (first | refine xo 4000 rfl ?_ ?_ | refine xw 4000 rfl ?_ ?_ | refine xk 4000 rfl ?_ ?_ | exact trivial | ((with_reducible (show AllP (_ :: _))); refine And.intro ?_ ?_) | refine xs rfl ?_ ?_ | refine xs_done ?_ | refine pcond_t rfl ?_ | refine pcond_f rfl ?_ | refine kround_exit ?_ | refine kround_ret ?_ | refine kround_next ?_ | refine kloop_ret ?_ | refine kloop_exit ?_ | refine kcut_ret ?_ | refine kcut_exit ?_ | refine xo0 4000 rfl ?_ ?_ | refine xw0 4000 rfl ?_ ?_ | exact qq | fail)
        refine xdone ?_
        refine kret [] rfl ⟨trivial, trivial, trivial⟩ (qs := [vPs 0 (lF dP []), vi 0]) ⟨argNil, argVal, trivial⟩ ?_
        refine ⟨[], 0, rfl, .inr ⟨by rw [← hX]; exact h0, .inl ⟨rfl, by simp, fun k => by simpa using hocc k, fun p hp => by simp at hp⟩⟩⟩
      · repeat' (first | refine xo 4000 rfl ?_ ?_ | refine xw 4000 rfl ?_ ?_ | refine xk 4000 rfl ?_ ?_ | exact trivial | ((with_reducible (show AllP (_ :: _))); refine And.intro ?_ ?_) | refine xs rfl ?_ ?_ | refine xs_done ?_ | refine pcond_t rfl ?_ | refine pcond_f rfl ?_ | refine kround_exit ?_ | refine kround_ret ?_ | refine kround_next ?_ | refine kloop_ret ?_ | refine kloop_exit ?_ | refine kcut_ret ?_ | refine kcut_exit ?_ | refine xo0 4000 rfl ?_ ?_ | refine xw0 4000 rfl ?_ ?_ | exact qq | fail)
        refine pcan (can_virt (vRow cP 2 0 (resF i g ks)) rfl) ?_
        refine pcan (st' := ⟨[(6, .mref 0), (9, slP 0 2), (37, .lsl 1 0 (kn + 1)), (38, vi ((kn + 1 : Nat) : Int)), (39, vi ((0 : Nat) : Int))], [mRow kI m, vRow c1 1 (kn + 1) (lF 0 ks), vRow cP 2 0 (resF i g ks)]⟩) (can_rowsv [0, 1, 2] (k0_sel hk rfl) rfl (.cons rfl m_eq (.cons rfl rqq (.cons rfl rqq .nil))) tmq) ?_
        refine ploop (fun q st => ∃ j : Nat, j ≤ kn + 1 ∧ (∀ a, a < j → (resF i g ks a).2 ≤ 1000000000000) ∧ q = kn + 1 - j ∧ st = ⟨[(6, .mref 0), (9, slP j 2), (37, .lsl 1 0 (kn + 1)), (38, vi ((kn + 1 : Nat) : Int)), (39, vi j)], [mRow kI m, vRow c1 1 (kn + 1) (lF 0 ks), vRow cP 2 j (resF i g ks)]⟩) (kn + 1) ⟨0, by omega, fun a ha => by omega, rfl, rfl⟩ ?_
        rintro _ _ ⟨j, hj, hle, rfl, rfl⟩
        repeat' (first | refine xo 4000 rfl ?_ ?_ | refine xw 4000 rfl ?_ ?_ | refine xk 4000 rfl ?_ ?_ | exact trivial | ((with_reducible (show AllP (_ :: _))); refine And.intro ?_ ?_) | refine xs rfl ?_ ?_ | refine xs_done ?_ | refine pcond_t rfl ?_ | refine pcond_f rfl ?_ | refine kround_exit ?_ | refine kround_ret ?_ | refine kround_next ?_ | refine kloop_ret ?_ | refine kloop_exit ?_ | refine kcut_ret ?_ | refine kcut_exit ?_ | refine xo0 4000 rfl ?_ ?_ | refine xw0 4000 rfl ?_ ?_ | exact qq | fail)
        refine pcond rfl ?_ ?_ <;> intro hc3 <;> simp at hc3
        · have hjk : lF 0 ks j ∈ ks := by
            unfold lF; rw [List.getD_eq_getElem?_getD, List.getElem?_eq_getElem (show j < ks.length by omega)]; exact List.getElem_mem _
          have hw : IntKind.i64.wrap ((j : Int) + 1) = ((j + 1 : Nat) : Int) := w64 (by omega) (by omega)
          have over : 1000000000000 < sumE i g (lF 0 ks j) → CombP i g [] 4 := fun h => .inr ⟨by rw [← hX]; exact h0, .inr ⟨rfl, rfl, _, h⟩⟩
          have nxt : sumE i g (lF 0 ks j) ≤ 1000000000000 → ∀ a, a < j + 1 → (resF i g ks a).2 ≤ 1000000000000 := fun h a ha => by
            by_cases e : a = j
            · subst e; exact h
            · exact hle a (by omega)
          repeat' (first | refine xo 4000 rfl ?_ ?_ | refine xw 4000 rfl ?_ ?_ | refine xk 4000 rfl ?_ ?_ | exact trivial | ((with_reducible (show AllP (_ :: _))); refine And.intro ?_ ?_) | refine xs rfl ?_ ?_ | refine xs_done ?_ | refine pcond_t rfl ?_ | refine pcond_f rfl ?_ | refine kround_exit ?_ | refine kround_ret ?_ | refine kround_next ?_ | refine kloop_ret ?_ | refine kloop_exit ?_ | refine kcut_ret ?_ | refine kcut_exit ?_ | refine xo0 4000 rfl ?_ ?_ | refine xw0 4000 rfl ?_ ?_ | exact qq | fail)
          refine pop_look mapII false (lF 0 ks j) rfl rfl rfl rfl rfl (by show PV.val (Value.int .i64 (lF 0 ks (0 + (j : Int).toNat))) = _; rw [show 0 + (j : Int).toNat = j by omega]; rfl) rfl ?_
          rw [hM.val]
          repeat' (first | refine xo 4000 rfl ?_ ?_ | refine xw 4000 rfl ?_ ?_ | refine xk 4000 rfl ?_ ?_ | exact trivial | ((with_reducible (show AllP (_ :: _))); refine And.intro ?_ ?_) | refine xs rfl ?_ ?_ | refine xs_done ?_ | refine pcond_t rfl ?_ | refine pcond_f rfl ?_ | refine kround_exit ?_ | refine kround_ret ?_ | refine kround_next ?_ | refine kloop_ret ?_ | refine kloop_exit ?_ | refine kcut_ret ?_ | refine kcut_exit ?_ | refine xo0 4000 rfl ?_ ?_ | refine xw0 4000 rfl ?_ ?_ | exact qq | fail)
          refine pcond rfl ?_ ?_ <;> intro hc4 <;> simp at hc4
          · repeat' (first | refine xo 4000 rfl ?_ ?_ | refine xw 4000 rfl ?_ ?_ | refine xk 4000 rfl ?_ ?_ | exact trivial | ((with_reducible (show AllP (_ :: _))); refine And.intro ?_ ?_) | refine xs rfl ?_ ?_ | refine xs_done ?_ | refine pcond_t rfl ?_ | refine pcond_f rfl ?_ | refine kround_exit ?_ | refine kround_ret ?_ | refine kround_next ?_ | refine kloop_ret ?_ | refine kloop_exit ?_ | refine kcut_ret ?_ | refine kcut_exit ?_ | refine xo0 4000 rfl ?_ ?_ | refine xw0 4000 rfl ?_ ?_ | exact qq | fail)
            refine xdone ?_
            refine kret [] rfl ⟨trivial, trivial, trivial⟩ (qs := [vPs 0 (lF dP []), vi 4]) ⟨argNil, argVal, trivial⟩ ?_
            exact ⟨[], 4, rfl, over hc4⟩
          · rcases j with _ | j
            · repeat' (first | refine xo 4000 rfl ?_ ?_ | refine xw 4000 rfl ?_ ?_ | refine xk 4000 rfl ?_ ?_ | exact trivial | ((with_reducible (show AllP (_ :: _))); refine And.intro ?_ ?_) | refine xs rfl ?_ ?_ | refine xs_done ?_ | refine pcond_t rfl ?_ | refine pcond_f rfl ?_ | refine kround_exit ?_ | refine kround_ret ?_ | refine kround_next ?_ | refine kloop_ret ?_ | refine kloop_exit ?_ | refine kcut_ret ?_ | refine kcut_exit ?_ | refine xo0 4000 rfl ?_ ?_ | refine xw0 4000 rfl ?_ ?_ | exact qq | fail)
              refine pop_look mapII false (lF 0 ks 0) rfl rfl rfl rfl rfl rfl rfl ?_
              rw [hM.val]
              repeat' (first | refine xo 4000 rfl ?_ ?_ | refine xw 4000 rfl ?_ ?_ | refine xk 4000 rfl ?_ ?_ | exact trivial | ((with_reducible (show AllP (_ :: _))); refine And.intro ?_ ?_) | refine xs rfl ?_ ?_ | refine xs_done ?_ | refine pcond_t rfl ?_ | refine pcond_f rfl ?_ | refine kround_exit ?_ | refine kround_ret ?_ | refine kround_next ?_ | refine kloop_ret ?_ | refine kloop_exit ?_ | refine kcut_ret ?_ | refine kcut_exit ?_ | refine xo0 4000 rfl ?_ ?_ | refine xw0 4000 rfl ?_ ?_ | exact qq | fail)
              rw [hw]
              exact kloop_next (st' := ⟨[(6, .mref 0), (9, slP (0 + 1) 2), (37, .lsl 1 0 (kn + 1)), (38, vi ((kn + 1 : Nat) : Int)), (39, vi ((0 + 1 : Nat) : Int))], [mRow kI m, vRow c1 1 (kn + 1) (lF 0 ks), vRow cP 2 (0 + 1) (resF i g ks)]⟩) (kn + 1 - (0 + 1)) (can_rowsv [0, 1, 4] (k0_sel hk rfl) rfl (.cons rfl m_eq (.cons rfl rqq (.cons rfl rqq .nil))) tmq) (by omega) ⟨0 + 1, by omega, nxt hc4, rfl, rfl⟩
            · repeat' (first | refine xo 4000 rfl ?_ ?_ | refine xw 4000 rfl ?_ ?_ | refine xk 4000 rfl ?_ ?_ | exact trivial | ((with_reducible (show AllP (_ :: _))); refine And.intro ?_ ?_) | refine xs rfl ?_ ?_ | refine xs_done ?_ | refine pcond_t rfl ?_ | refine pcond_f rfl ?_ | refine kround_exit ?_ | refine kround_ret ?_ | refine kround_next ?_ | refine kloop_ret ?_ | refine kloop_exit ?_ | refine kcut_ret ?_ | refine kcut_exit ?_ | refine xo0 4000 rfl ?_ ?_ | refine xw0 4000 rfl ?_ ?_ | exact qq | fail)
              refine pop_look mapII false (lF 0 ks (j + 1)) rfl rfl rfl rfl rfl (by show PV.val (Value.int .i64 (lF 0 ks (0 + ((j + 1 : Nat) : Int).toNat))) = _; rw [show 0 + ((j + 1 : Nat) : Int).toNat = j + 1 by omega]; rfl) rfl ?_
              rw [hM.val]
              repeat' (first | refine xo 4000 rfl ?_ ?_ | refine xw 4000 rfl ?_ ?_ | refine xk 4000 rfl ?_ ?_ | exact trivial | ((with_reducible (show AllP (_ :: _))); refine And.intro ?_ ?_) | refine xs rfl ?_ ?_ | refine xs_done ?_ | refine pcond_t rfl ?_ | refine pcond_f rfl ?_ | refine kround_exit ?_ | refine kround_ret ?_ | refine kround_next ?_ | refine kloop_ret ?_ | refine kloop_exit ?_ | refine kcut_ret ?_ | refine kcut_exit ?_ | refine xo0 4000 rfl ?_ ?_ | refine xw0 4000 rfl ?_ ?_ | exact qq | fail)
              rw [hw, show 0 + ((j + 1 : Nat) : Int).toNat = j + 1 by omega]
              exact kloop_next (st' := ⟨[(6, .mref 0), (9, slP (j + 1 + 1) 2), (37, .lsl 1 0 (kn + 1)), (38, vi ((kn + 1 : Nat) : Int)), (39, vi ((j + 1 + 1 : Nat) : Int))], [mRow kI m, vRow c1 1 (kn + 1) (lF 0 ks), vRow cP 2 (j + 1 + 1) (resF i g ks)]⟩) (kn + 1 - (j + 1 + 1)) (can_rowsv [0, 1, 4] (k0_sel hk rfl) rfl (.cons rfl m_eq (.cons rfl rqq (.cons rfl rqq .nil))) tmq) (by omega) ⟨j + 1 + 1, by omega, nxt hc4, rfl, rfl⟩
        · have hjn : j = kn + 1 := by omega
          subst hjn
          have hF : resF i g ks = lF dP (ks.map fun k => (k, sumE i g k)) := by
            funext a
            unfold lF
            rw [List.getD_eq_getElem?_getD, List.getElem?_map]
            show ((ks.getD a 0), sumE i g (ks.getD a 0)) = _
            rw [List.getD_eq_getElem?_getD]
            cases h : ks[a]? with
            | none =>
              have : ¬ occE i g 0 := fun ⟨q, hq, e⟩ => by have := payOk_iff.1 (hok q hq); omega
              show ((0 : Int), sumE i g 0) = dP
              rw [sumE_none this]; rfl
            | some k => rfl
          repeat' (first | refine xo 4000 rfl ?_ ?_ | refine xw 4000 rfl ?_ ?_ | refine xk 4000 rfl ?_ ?_ | exact trivial | ((with_reducible (show AllP (_ :: _))); refine And.intro ?_ ?_) | refine xs rfl ?_ ?_ | refine xs_done ?_ | refine pcond_t rfl ?_ | refine pcond_f rfl ?_ | refine kround_exit ?_ | refine kround_ret ?_ | refine kround_next ?_ | refine kloop_ret ?_ | refine kloop_exit ?_ | refine kcut_ret ?_ | refine kcut_exit ?_ | refine xo0 4000 rfl ?_ ?_ | refine xw0 4000 rfl ?_ ?_ | exact qq | fail)
          refine xdone ?_
          refine kret [2] rfl ⟨trivial, trivial, trivial⟩ (qs := [vPs (kn + 1) (resF i g ks), vi 0]) ⟨arg_o (s := .own) cP_cl rfl trivial (List.Mem.head _), argVal, trivial⟩ ?_
          refine ⟨ks.map fun k => (k, sumE i g k), 0, by rw [← hF, List.length_map, ← hkn]; rfl, .inr ⟨by rw [← hX]; exact h0, .inl ⟨rfl, ?_, fun k => ?_, fun p hp => ?_⟩⟩⟩
          · rw [List.map_map]; simpa [Function.comp_def] using hst
          · rw [List.map_map, ← hocc]; simp [Function.comp_def]
          · obtain ⟨k, hk1, rfl⟩ := List.mem_map.1 hp
            refine ⟨rfl, ?_⟩
            obtain ⟨q, hq, e⟩ := List.getElem_of_mem hk1
            have := hle q (by omega)
            simp only [resF, lF] at this
            rw [List.getD_eq_getElem?_getD, List.getElem?_eq_getElem hq, e] at this
            exact this
end Go.Proofs.Ytnjikclflfioeaa
