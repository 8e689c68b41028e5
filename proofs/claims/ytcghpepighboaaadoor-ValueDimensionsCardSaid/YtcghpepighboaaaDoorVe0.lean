/- Plain: the value of an expression hangs on what occurs in it, not on the height allowed. -/
import Derived.Test.YtcghpepighboaaaDoorVal0
import Derived.Test.YtcghpepighboaaaDoorX9
set_option linter.unusedSimpArgs false
set_option linter.unusedVariables false
namespace Go.Proofs.YtcghpepighboaaaDoor
def evB (N : List In) (S : List Df) (P : List Pa) (V : Nat → RE) (e : Ex) : RE :=
    if e.op = 1 then ((e.vn, e.vd), 0) else if e.op = 2 then ((e.cnt, 1), 0) else if e.op = 3 then inS N e.nm else if e.op = 20 then avgS P e.nm e.cnt else if e.op = 21 then lastS' P e.nm e.cnt
    else if (V 0).2 ≠ 0 then ((0, 0), (V 0).2)
    else if e.op = 4 then scaS S e.nm (V 0).1.1 (V 0).1.2
    else if e.op = 16 then negR (V 0).1.1 (V 0).1.2
    else if e.op = 17 then (truS (decide ((V 0).1.1 = 0)), 0)
    else if e.op = 19 then roundR (V 0).1.1 (V 0).1.2 e.vn e.vd e.mode
    else if e.op = 18 then (if (V 0).1.1 ≠ 0 then V 1 else V 2)
    else if e.op = 12 then (if (V 0).1.1 = 0 then ((0, 1), 0) else V 1)
    else if e.op = 13 then (if (V 0).1.1 ≠ 0 then ((1, 1), 0) else V 1)
    else if (V 1).2 ≠ 0 then ((0, 0), (V 1).2)
    else combS e.op (V 0).1 (V 1).1
theorem evS_B (N : List In) (S : List Df) (P : List Pa) (n : Nat) (e : Ex) : evS N S P (n + 1) e = evB N S P (fun i => evS N S P n (e.kf i)) e := rfl
theorem kids_op {e : Ex} (hk : (e.nk : Int) = kidsN e.op) : (e.op = 1 ∨ e.op = 2 ∨ e.op = 3 ∨ e.op = 20 ∨ e.op = 21) ∨ ((e.op = 4 ∨ e.op = 16 ∨ e.op = 17 ∨ e.op = 19) ∧ e.nk = 1) ∨ (e.op = 18 ∧ e.nk = 3) ∨ (5 ≤ e.op ∧ e.op ≤ 15 ∧ e.nk = 2) := by
  unfold kidsN at hk
  split at hk
  · left; assumption
  split at hk
  · right; left; exact ⟨by assumption, by omega⟩
  split at hk
  · right; right; right; omega
  split at hk
  · right; right; left; omega
  · omega
theorem evB_congr {N N' : List In} {S S' : List Df} {P P' : List Pa} {V V' : Nat → RE} {e : Ex} (hk : (e.nk : Int) = kidsN e.op) (hV : ∀ i, i < e.nk → V i = V' i)
    (h3 : e.op = 3 → inS N e.nm = inS N' e.nm) (h4 : e.op = 4 → ∀ a b, scaS S e.nm a b = scaS S' e.nm a b) (h20 : e.op = 20 → avgS P e.nm e.cnt = avgS P' e.nm e.cnt) (h21 : e.op = 21 → lastS' P e.nm e.cnt = lastS' P' e.nm e.cnt) : evB N S P V e = evB N' S' P' V' e := by
  have hc := kids_op hk
  clear hk
  unfold evB
  rcases hc with h | ⟨h, hn⟩ | ⟨h, hn⟩ | ⟨h1, h2, hn⟩
  · rcases h with h | h | h | h | h
    · simp only [if_pos h]
    · simp only [if_neg (show ¬ e.op = 1 by omega), if_pos h]
    · simp only [if_neg (show ¬ e.op = 1 by omega), if_neg (show ¬ e.op = 2 by omega), if_pos h, h3 h]
    · simp only [if_neg (show ¬ e.op = 1 by omega), if_neg (show ¬ e.op = 2 by omega), if_neg (show ¬ e.op = 3 by omega), if_pos h, h20 h]
    · simp only [if_neg (show ¬ e.op = 1 by omega), if_neg (show ¬ e.op = 2 by omega), if_neg (show ¬ e.op = 3 by omega), if_neg (show ¬ e.op = 20 by omega), if_pos h, h21 h]
  · have v0 := hV 0 (by omega)
    simp only [if_neg (show ¬ e.op = 1 by omega), if_neg (show ¬ e.op = 2 by omega), if_neg (show ¬ e.op = 3 by omega), if_neg (show ¬ e.op = 20 by omega), if_neg (show ¬ e.op = 21 by omega), v0]
    rcases h with h | h | h | h
    · simp only [if_pos h, h4 h]
    · simp only [if_neg (show ¬ e.op = 4 by omega), if_pos h]
    · simp only [if_neg (show ¬ e.op = 4 by omega), if_neg (show ¬ e.op = 16 by omega), if_pos h]
    · simp only [if_neg (show ¬ e.op = 4 by omega), if_neg (show ¬ e.op = 16 by omega), if_neg (show ¬ e.op = 17 by omega), if_pos h]
  · have v0 := hV 0 (by omega)
    have v1 := hV 1 (by omega)
    have v2 := hV 2 (by omega)
    simp only [if_neg (show ¬ e.op = 1 by omega), if_neg (show ¬ e.op = 2 by omega), if_neg (show ¬ e.op = 3 by omega), if_neg (show ¬ e.op = 20 by omega), if_neg (show ¬ e.op = 21 by omega), if_neg (show ¬ e.op = 4 by omega), if_neg (show ¬ e.op = 16 by omega), if_neg (show ¬ e.op = 17 by omega), if_neg (show ¬ e.op = 19 by omega), if_pos h, v0, v1, v2]
  · have v0 := hV 0 (by omega)
    have v1 := hV 1 (by omega)
    by_cases h12 : e.op = 12
    · simp only [if_neg (show ¬ e.op = 1 by omega), if_neg (show ¬ e.op = 2 by omega), if_neg (show ¬ e.op = 3 by omega), if_neg (show ¬ e.op = 20 by omega), if_neg (show ¬ e.op = 21 by omega), if_neg (show ¬ e.op = 4 by omega), if_neg (show ¬ e.op = 16 by omega), if_neg (show ¬ e.op = 17 by omega), if_neg (show ¬ e.op = 19 by omega), if_neg (show ¬ e.op = 18 by omega), if_pos h12, v0, v1]
    by_cases h13 : e.op = 13
    · simp only [if_neg (show ¬ e.op = 1 by omega), if_neg (show ¬ e.op = 2 by omega), if_neg (show ¬ e.op = 3 by omega), if_neg (show ¬ e.op = 20 by omega), if_neg (show ¬ e.op = 21 by omega), if_neg (show ¬ e.op = 4 by omega), if_neg (show ¬ e.op = 16 by omega), if_neg (show ¬ e.op = 17 by omega), if_neg (show ¬ e.op = 19 by omega), if_neg (show ¬ e.op = 18 by omega), if_neg (show ¬ e.op = 12 by omega), if_pos h13, v0, v1]
    simp only [if_neg (show ¬ e.op = 1 by omega), if_neg (show ¬ e.op = 2 by omega), if_neg (show ¬ e.op = 3 by omega), if_neg (show ¬ e.op = 20 by omega), if_neg (show ¬ e.op = 21 by omega), if_neg (show ¬ e.op = 4 by omega), if_neg (show ¬ e.op = 16 by omega), if_neg (show ¬ e.op = 17 by omega), if_neg (show ¬ e.op = 19 by omega), if_neg (show ¬ e.op = 18 by omega), if_neg h12, if_neg h13, v0, v1]
theorem evS_succ (N : List In) (S : List Df) (P : List Pa) : ∀ (n : Nat) (e : Ex), validS n e = true → evS N S P (n + 1) e = evS N S P n e
  | 0, e, h => by simp [validS] at h
  | n + 1, e, h => by
    rw [evS_B, evS_B]
    exact evB_congr (validS_nk h) (fun i hi => evS_succ N S P n (e.kf i) (validS_k h hi)) (fun _ => rfl) (fun _ _ _ => rfl) (fun _ => rfl) (fun _ => rfl)
theorem evS_add (N : List In) (S : List Df) (P : List Pa) (n : Nat) (e : Ex) (h : validS n e = true) (hs : ∀ m, n ≤ m → validS m e = true) : ∀ k, evS N S P (n + k) e = evS N S P n e
  | 0 => rfl
  | k + 1 => by rw [show n + (k + 1) = (n + k) + 1 by omega, evS_succ N S P (n + k) e (hs _ (by omega)), evS_add N S P n e h hs k]
theorem typeS_kid {N S P : List Df} {n : Nat} {e : Ex} (hk : (e.nk : Int) = kidsN e.op) (h : (typeS N S P (n + 1) e).2 = 0) {i : Nat} (hi : i < e.nk) : (typeS N S P n (e.kf i)).2 = 0 := by
  have h3 := kidsN_le e.op
  unfold typeS at h
  split at h
  · rename_i hc; exact absurd h hc.2
  split at h
  · rename_i hc; exact absurd h hc.2
  split at h
  · rename_i hc; exact absurd h hc.2
  · rename_i a b c
    rcases (by omega : i = 0 ∨ i = 1 ∨ i = 2) with rfl | rfl | rfl
    · exact Decidable.not_not.1 fun hx => a ⟨hi, hx⟩
    · exact Decidable.not_not.1 fun hx => b ⟨hi, hx⟩
    · exact Decidable.not_not.1 fun hx => c ⟨hi, hx⟩
theorem findS_mem {s : ByteArray} : ∀ {N : List Df}, (findS N s).2 = 0 → ∃ d, d ∈ N ∧ d.nm.toList = s.toList
  | [], h => by simp [findS] at h
  | d :: l, h => by
    unfold findS at h
    split at h
    · rename_i hc; exact ⟨d, List.mem_cons_self, hc⟩
    · obtain ⟨x, hx, hs⟩ := findS_mem h; exact ⟨x, List.mem_cons_of_mem _ hx, hs⟩
theorem typeS_op {N S P : List Df} {n : Nat} {e : Ex} (h : (typeS N S P (n + 1) e).2 = 0) : (e.op = 3 → (findS N e.nm).2 = 0) ∧ (e.op = 4 → (findS S e.nm).2 = 0) ∧ (e.op = 20 ∨ e.op = 21 → (findS P e.nm).2 = 0) := by
  unfold typeS at h
  split at h
  · rename_i hc; exact absurd h hc.2
  split at h
  · rename_i hc; exact absurd h hc.2
  split at h
  · rename_i hc; exact absurd h hc.2
  · unfold opS at h
    refine ⟨fun h3 => ?_, fun h3 => ?_, fun h3 => ?_⟩
    · rw [if_neg (by omega), if_neg (by omega), if_pos h3] at h; exact h
    · rw [if_neg (by omega), if_neg (by omega), if_neg (by omega), if_neg (by omega), if_pos h3] at h
      split at h
      · rename_i hc; exact absurd h hc
      · rename_i hc; exact Decidable.not_not.1 hc
    · rw [if_neg (by omega), if_neg (by omega), if_neg (by omega), if_pos h3] at h; exact h
theorem evS_agree {NL SL PL : List Df} {N N' : List In} {S S' : List Df} {P P' : List Pa} (hN : ∀ d, d ∈ NL → ∀ s : ByteArray, d.nm.toList = s.toList → inS N s = inS N' s) (hS : ∀ d, d ∈ SL → ∀ s : ByteArray, d.nm.toList = s.toList → ∀ a b, scaS S s a b = scaS S' s a b)
    (hP : ∀ d, d ∈ PL → ∀ s : ByteArray, d.nm.toList = s.toList → ∀ c, avgS P s c = avgS P' s c ∧ lastS' P s c = lastS' P' s c) : ∀ (n : Nat) (e : Ex), validS n e = true → (typeS NL SL PL n e).2 = 0 → evS N S P n e = evS N' S' P' n e
  | 0, e, h, _ => by simp [validS] at h
  | n + 1, e, h, ht => by
    obtain ⟨t3, t4, t20⟩ := typeS_op ht
    rw [evS_B, evS_B]
    refine evB_congr (validS_nk h) (fun i hi => evS_agree hN hS hP n (e.kf i) (validS_k h hi) (typeS_kid (validS_nk h) ht hi)) (fun h3 => ?_) (fun h4 a b => ?_) (fun h20 => ?_) (fun h21 => ?_)
    · obtain ⟨d, hd, hs⟩ := findS_mem (t3 h3); exact hN d hd _ hs
    · obtain ⟨d, hd, hs⟩ := findS_mem (t4 h4); exact hS d hd _ hs a b
    · obtain ⟨d, hd, hs⟩ := findS_mem (t20 (.inl h20)); exact (hP d hd _ hs _).1
    · obtain ⟨d, hd, hs⟩ := findS_mem (t20 (.inr h21)); exact (hP d hd _ hs _).2
end Go.Proofs.YtcghpepighboaaaDoor
