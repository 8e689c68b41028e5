/- Plain: an environment in another measure. -/
import Derived.Test.YtcghpepighboaaaDoorDm1
set_option linter.unusedSimpArgs false
set_option linter.unusedVariables false
set_option maxRecDepth 100000
namespace Go.Proofs.YtcghpepighboaaaDoor
def mkD (nm : ByteArray) (t : Ty) : Df := ⟨1, nm, t, 0, 0, fun _ => (0, 0, 0), .nil, 0, 0, 0⟩
def NLv : List Df := [mkD n_h tH, mkD n_g t0, mkD n_f tB, mkD n_r1 tR, mkD n_r2 tM, mkD n_r3 tB, mkD n_r4 t0, mkD n_a tM]
def SLv : List Df := [mkD n_w tR, mkD n_s t0]
def PLv : List Df := [mkD n_gross tM, mkD n_time tH]
theorem envv : Env NLv SLv PLv := by
  refine ⟨?_, ?_, ?_, ?_, ?_, ?_, ?_, ?_, ?_, ?_, ?_, ?_⟩ <;> decide +kernel
theorem findS_congr {s s' : ByteArray} (h : s.toList = s'.toList) : ∀ (l : List Df), findS l s = findS l s'
  | [] => rfl
  | d :: l => by unfold findS; rw [h, findS_congr h l]
theorem findS_of {s : ByteArray} {t : Ty} : ∀ (l : List Df), (∀ d, d ∈ l → d.kind = 1) → findS l s = (t, 0) → ∃ d, d ∈ l ∧ d.ty = t ∧ d.nm.toList = s.toList
  | [], _, h => by simp [findS] at h
  | d :: l, hk, h => by
    unfold findS at h
    split at h
    · rename_i h1
      rw [if_neg (by rw [hk d (List.Mem.head _)]; decide)] at h
      simp only [Prod.mk.injEq, and_true] at h
      exact ⟨d, List.Mem.head _, h, h1⟩
    · obtain ⟨d', h1, h2⟩ := findS_of l (fun d hd => hk d (List.Mem.tail _ hd)) h
      exact ⟨d', List.Mem.tail _ h1, h2⟩
def uhN (s : ByteArray) : Int := if s = n_h then 1 else if s = n_r1 then -1 else 0
abbrev nms8 : List ByteArray := [n_h, n_g, n_r1, n_r2, n_r4, n_a, n_f, n_r3]
theorem uh_tab : ∀ nm ∈ nms8, (findS NLv nm).1.h = uhN nm := by decide +kernel
theorem uh_bd (s : ByteArray) : -3 ≤ uhN s ∧ uhN s ≤ 3 := by unfold uhN; split; decide; split <;> decide
theorem NLv_ok : ∀ d, d ∈ NLv → d.kind = 1 ∧ okTy d.ty := by
  intro d hd
  simp only [NLv, List.mem_cons, List.not_mem_nil, or_false] at hd
  rcases hd with rfl | rfl | rfl | rfl | rfl | rfl | rfl | rfl <;> exact ⟨rfl, fun h => by first | rfl | cases h⟩
def msI (x : In) : In := ⟨x.nm, (scS (x.n, x.d) (uhN x.nm)).1, (scS (x.n, x.d) (uhN x.nm)).2⟩
def msE (x : En) : En := (x.1, scS x.2 (-1))
def msD (d : Df) : Df := ⟨2, d.nm, d.ty, d.day, d.ne, fun i => msE (d.ef i), .nil, 0, 0, 0⟩
structure InsD (N : List In) : Prop where
  nm : N.map In.nm = nms8
  dl : ∀ x, x ∈ N → (x.n, x.d) ∈ decL
theorem dims_in {N : List In} (h : InsD N) (s : ByteArray) (t : Ty) (ht : findS NLv s = (t, 0)) : okTy t ∧ ScR t.h (inS N s) (inS (N.map msI) s) := by
  constructor
  · obtain ⟨d, h1, h2, _⟩ := findS_of NLv (fun d hd => (NLv_ok d hd).1) ht
    rw [← h2]; exact (NLv_ok d h1).2
  unfold inS
  rw [List.find?_map]
  rw [show ((fun x : In => x.nm.toList == s.toList) ∘ msI) = (fun x : In => x.nm.toList == s.toList) from rfl]
  cases hf : N.find? (fun x => x.nm.toList == s.toList) with
  | none => exact sc_err _ _ (by decide)
  | some x =>
    have hx := List.mem_of_find?_eq_some hf
    have hs : x.nm.toList = s.toList := by simpa using List.find?_some hf
    have hn : x.nm ∈ nms8 := by rw [← h.nm]; exact List.mem_map.2 ⟨x, hx, rfl⟩
    have hh : t.h = uhN x.nm := by rw [← uh_tab _ hn, findS_congr hs, ht]
    obtain ⟨l1, l2, _, _, l5⟩ := lit_at (h.dl x hx) (uh_bd x.nm).1 (uh_bd x.nm).2
    show ScR t.h (if okR x.n x.d = true then _ else _) (if okR (msI x).n (msI x).d = true then _ else _)
    rw [if_pos (show okR x.n x.d = true from l1), if_pos (show okR (msI x).n (msI x).d = true from l2), hh]
    exact sc_val l1 l2 l5
theorem best_ms (ef : Nat → En) (a b : Int) : ∀ n, bestS (fun i => msE (ef i)) a b n = bestS ef a b n
  | 0 => rfl
  | n + 1 => by
    unfold bestS
    rw [best_ms ef a b n]; rfl
theorem look_ms {d : Df} (hd : ∀ i, i < d.ne → (d.ef i).2 ∈ decL ∧ -1000000000000 ≤ (d.ef i).1 ∧ (d.ef i).1 ≤ 1000000000000) (a b : Int) : ScR (-1) (lookS d.ne d.ef a b) (lookS d.ne (fun i => msE (d.ef i)) a b) := by
  unfold lookS
  have e1 : allK d.ne (fun i => entB (d.ef i)) = true := allK_iff.2 fun i hi => by
    obtain ⟨h1, h2, h3⟩ := hd i hi
    unfold entB
    rw [(lit_at h1 (k := -1) (by decide) (by decide)).1, decide_eq_true ⟨h2, h3⟩]; rfl
  have e2 : allK d.ne (fun i => entB (msE (d.ef i))) = true := allK_iff.2 fun i hi => by
    obtain ⟨h1, h2, h3⟩ := hd i hi
    unfold entB
    rw [show okR (msE (d.ef i)).2.1 (msE (d.ef i)).2.2 = true from (lit_at h1 (k := -1) (by decide) (by decide)).2.1, decide_eq_true (show -1000000000000 ≤ (msE (d.ef i)).1 ∧ (msE (d.ef i)).1 ≤ 1000000000000 from ⟨h2, h3⟩)]; rfl
  rw [best_ms, e1, e2]
  split
  · exact sc_err _ _ (by decide)
  split
  · exact sc_err _ _ (by decide)
  split
  · exact sc_err _ _ (by decide)
  · rename_i hb
    have hl := bestS_bd d.ef a b d.ne
    obtain ⟨l1, l2, _, _, l5⟩ := lit_at (hd (bestS d.ef a b d.ne).toNat (by omega)).1 (k := -1) (by decide) (by decide)
    exact sc_val l1 l2 l5
theorem dims_sc {d0 d1 : Df} (k0 : d0.kind = 2) (n0 : d0.nm = n_w) (k1 : d1.kind = 2) (n1 : d1.nm = n_s) (hd : ∀ i, i < d0.ne → (d0.ef i).2 ∈ decL ∧ -1000000000000 ≤ (d0.ef i).1 ∧ (d0.ef i).1 ≤ 1000000000000) (s : ByteArray) (t : Ty) (ht : findS SLv s = (t, 0)) : t.b = false ∧ ∀ a b, okR a b = true → ScR t.h (scaS [d0, d1] s a b) (scaS [msD d0, d1] s a b) := by
  obtain ⟨d, h1, h2, h3⟩ := findS_of SLv (fun d hd => by simp only [SLv, List.mem_cons, List.not_mem_nil, or_false] at hd; rcases hd with rfl | rfl <;> rfl) ht
  simp only [SLv, List.mem_cons, List.not_mem_nil, or_false] at h1
  rcases h1 with rfl | rfl
  · subst h2
    refine ⟨rfl, fun a b _ => ?_⟩
    have h3 : n_w.toList = s.toList := h3
    unfold scaS
    rw [List.find?_cons_of_pos (by simp [k0, n0, h3]), List.find?_cons_of_pos (by simp [msD, n0, h3])]
    exact look_ms hd a b
  · subst h2
    refine ⟨rfl, fun a b _ => ?_⟩
    have h3 : n_s.toList = s.toList := h3
    have hne : ¬ n_w.toList = s.toList := by rw [← h3]; decide +kernel
    have : scaS [msD d0, d1] s a b = scaS [d0, d1] s a b := by
      unfold scaS
      rw [List.find?_cons_of_neg (a := msD d0) (fun h => by rw [Bool.and_eq_true] at h; exact hne (n0 ▸ eq_of_beq h.2)), List.find?_cons_of_neg (a := d0) (fun h => by rw [Bool.and_eq_true] at h; exact hne (n0 ▸ eq_of_beq h.2))]
    rw [this]
    exact sc_same (scaS_ok _ _ _ _)
theorem sum_ms {f : Nat → Int × Int} {m : Nat} (hf : ∀ i, i ≤ m → f i ∈ decL) : ∀ n, n ≤ m → ScR 1 (sumR f n) (sumR (fun i => scS (f i) 1) n)
  | 0, h => by
    obtain ⟨l1, l2, _, _, l5⟩ := lit_at (hf 0 h) (k := 1) (by decide) (by decide)
    exact sc_val l1 l2 l5
  | n + 1, h => by
    have ih := sum_ms hf n (by omega)
    obtain ⟨l1, l2, _, _, l5⟩ := lit_at (hf (n + 1) h) (k := 1) (by decide) (by decide)
    have key := sc_if (F := addR (sumR f n).1.1 (sumR f n).1.2 (f (n + 1)).1 (f (n + 1)).2) (F' := addR (sumR (fun i => scS (f i) 1) n).1.1 (sumR (fun i => scS (f i) 1) n).1.2 (scS (f (n + 1)) 1).1 (scS (f (n + 1)) 1).2) ih fun _ _ o1 o2 v => sc_add o1 o2 l1 l2 v l5
    have conv : ∀ (x F : RE) (k' : Int) (y F' : RE), ScR k' (if x.2 ≠ 0 then ((0, 0), x.2) else F) (if y.2 ≠ 0 then ((0, 0), y.2) else F') → ScR k' (if x.2 = 0 then F else x) (if y.2 = 0 then F' else y) := by
      intro x F k' y F' h
      by_cases h1 : x.2 = 0 <;> by_cases h2 : y.2 = 0
      · rw [if_pos h1, if_pos h2]; rwa [if_neg (by simp [h1]), if_neg (by simp [h2])] at h
      · rw [if_pos h1, if_neg h2]; rw [if_neg (by simp [h1]), if_pos h2] at h
        exact fun a b => ⟨(h a b).1, fun h0 => absurd ((h a b).1.symm.trans h0) h2⟩
      · rw [if_neg h1, if_pos h2]; rw [if_pos h1, if_neg (by simp [h2])] at h
        exact fun a b => ⟨(h a b).1, fun h0 => absurd h0 h1⟩
      · rw [if_neg h1, if_neg h2]; rw [if_pos h1, if_pos h2] at h
        exact fun a b => ⟨(h a b).1, fun h0 => absurd h0 h1⟩
    exact conv _ _ _ _ _ key
theorem mean_ms {f : Nat → Int × Int} {k : Nat} (hk : k ≤ 120) (hf : ∀ i, i < k → f i ∈ decL) : ScR 1 (meanS k f) (meanS k (fun i => scS (f i) 1)) := by
  unfold meanS
  have hl := fun i (hi : i < k) => lit_at (hf i hi) (k := 1) (by decide) (by decide)
  have e1 : allK k (fun i => okR (f i).1 (f i).2) = true := allK_iff.2 fun i hi => (hl i hi).1
  have e2 : allK k (fun i => okR (scS (f i) 1).1 (scS (f i) 1).2) = true := allK_iff.2 fun i hi => (hl i hi).2.1
  rw [e1, e2]
  have hk2 : ¬ 120 < k := by omega
  by_cases h0 : k = 0
  · simp only [hk2, h0, if_true, if_false, Bool.true_eq_false]; exact sc_err _ _ (by decide)
  simp only [hk2, h0, if_false, Bool.true_eq_false]
  have hs := sum_ms (m := k - 1) (f := f) (fun i hi => hf i (by omega)) (k - 1) (Nat.le_refl _)
  have hko : okR (k : Int) 1 = true := by
    unfold okR
    rw [decide_eq_true_eq]
    exact ⟨by decide, by decide, by omega, by omega, Int.gcd_one⟩
  have conv : ∀ (x F : RE) (k' : Int) (y F' : RE), ScR k' (if x.2 ≠ 0 then ((0, 0), x.2) else F) (if y.2 ≠ 0 then ((0, 0), y.2) else F') → ScR k' (if x.2 = 0 then F else ((0, 0), x.2)) (if y.2 = 0 then F' else ((0, 0), y.2)) := by
    intro x F k' y F' h
    by_cases h1 : x.2 = 0 <;> by_cases h2 : y.2 = 0
    · rw [if_pos h1, if_pos h2]; rwa [if_neg (by simp [h1]), if_neg (by simp [h2])] at h
    · rw [if_pos h1, if_neg h2]; rwa [if_neg (by simp [h1]), if_pos h2] at h
    · rw [if_neg h1, if_pos h2]; rwa [if_pos h1, if_neg (by simp [h2])] at h
    · rw [if_neg h1, if_neg h2]; rwa [if_pos h1, if_pos h2] at h
  refine conv _ _ _ _ _ (sc_if hs fun _ _ o1 o2 v => ?_)
  exact sc_div (j := 1) (k := 0) (y := (k, 1)) (y' := (k, 1)) o1 o2 hko hko v (vs_refl _)
theorem dims_pa {f0 f1 : Nat → Int × Int} (hf : ∀ i, i < 3 → f1 i ∈ decL) (s : ByteArray) (t : Ty) (ht : findS PLv s = (t, 0)) : t.b = false ∧ ∀ c, ScR t.h (avgS [⟨n_gross, 3, f0⟩, ⟨n_time, 3, f1⟩] s c) (avgS [⟨n_gross, 3, f0⟩, ⟨n_time, 3, fun i => scS (f1 i) 1⟩] s c) ∧ ScR t.h (lastS' [⟨n_gross, 3, f0⟩, ⟨n_time, 3, f1⟩] s c) (lastS' [⟨n_gross, 3, f0⟩, ⟨n_time, 3, fun i => scS (f1 i) 1⟩] s c) := by
  obtain ⟨d, h1, h2, h3⟩ := findS_of PLv (fun d hd => by simp only [PLv, List.mem_cons, List.not_mem_nil, or_false] at hd; rcases hd with rfl | rfl <;> rfl) ht
  simp only [PLv, List.mem_cons, List.not_mem_nil, or_false] at h1
  rcases h1 with rfl | rfl
  · subst h2
    refine ⟨rfl, fun c => ?_⟩
    have h3 : n_gross.toList = s.toList := h3
    have e : findPa [⟨n_gross, 3, f0⟩, ⟨n_time, 3, fun i => scS (f1 i) 1⟩] s = findPa [⟨n_gross, 3, f0⟩, ⟨n_time, 3, f1⟩] s := by
      unfold findPa
      rw [List.find?_cons_of_pos (by simp [h3]), List.find?_cons_of_pos (by simp [h3])]
    have e1 : avgS [⟨n_gross, 3, f0⟩, ⟨n_time, 3, fun i => scS (f1 i) 1⟩] s c = avgS [⟨n_gross, 3, f0⟩, ⟨n_time, 3, f1⟩] s c := by unfold avgS; rw [e]
    have e2 : lastS' [⟨n_gross, 3, f0⟩, ⟨n_time, 3, fun i => scS (f1 i) 1⟩] s c = lastS' [⟨n_gross, 3, f0⟩, ⟨n_time, 3, f1⟩] s c := by unfold lastS'; rw [e]
    rw [e1, e2]
    exact ⟨sc_same (avgS_ok _ _ _), sc_same (lastS_ok _ _ _)⟩
  · subst h2
    refine ⟨rfl, fun c => ?_⟩
    have h3 : n_time.toList = s.toList := h3
    have hne : ¬ n_gross.toList = s.toList := by rw [← h3]; decide +kernel
    have e : ∀ f, findPa [⟨n_gross, 3, f0⟩, ⟨n_time, 3, f⟩] s = some ⟨n_time, 3, f⟩ := fun f => by
      unfold findPa
      rw [List.find?_cons_of_neg (a := (⟨n_gross, 3, f0⟩ : Pa)) (fun h => hne (eq_of_beq h)), List.find?_cons_of_pos (by simp [h3])]
    unfold avgS lastS'
    rw [e, e]
    have hl := fun i (hi : i < 3) => lit_at (hf i hi) (k := 1) (by decide) (by decide)
    constructor
    · split
      · exact sc_err _ _ (by decide)
      · exact mean_ms (by show min c.toNat 3 ≤ 120; omega) (fun i hi => hf i (by have : i < min c.toNat 3 := hi; omega))
    · split
      · exact sc_err _ _ (by decide)
      · rename_i hc
        show ScR 1 (if ((3 : Nat) : Int) < c then _ else _) (if ((3 : Nat) : Int) < c then _ else _)
        split
        · exact sc_err _ _ (by decide)
        · rename_i hc2
          obtain ⟨l1, l2, _, _, l5⟩ := hl (c.toNat - 1) (by omega)
          rw [if_pos l1, if_pos l2]
          exact sc_val l1 l2 l5
theorem sc_fin {k : Int} {x y : Int × Int} (hk : k = 0 ∨ k = 1 ∨ k = -1) (hx : okR x.1 x.2 = true) (hy : okR y.1 y.2 = true) (h : Vs k x y) : y = scS x k := by
  have hd := (okR_bd hx).1
  rcases hk with rfl | rfl | rfl
  · exact vs_zero hx hy h
  · have h : y.1 * x.2 * 1 = x.1 * y.2 * 2 := h
    have e := newS_to (n := 2 * x.1) (d := x.2) (a := y.1) (b := y.2) (by omega) hy (by grind)
    show y = dblS x
    unfold dblS
    rw [e]; rfl
  · have h : y.1 * x.2 * 2 = x.1 * y.2 * 1 := h
    have e := newS_to (n := x.1) (d := 2 * x.2) (a := y.1) (b := y.2) (by omega) hy (by grind)
    show y = hlfS x
    unfold hlfS
    rw [e]; rfl
theorem dims_plain {N : List In} (hN : InsD N) {d0 d1 : Df} (k0 : d0.kind = 2) (n0 : d0.nm = n_w) (k1 : d1.kind = 2) (n1 : d1.nm = n_s) (hd : ∀ i, i < d0.ne → (d0.ef i).2 ∈ decL ∧ -1000000000000 ≤ (d0.ef i).1 ∧ (d0.ef i).1 ≤ 1000000000000)
    {f0 f1 : Nat → Int × Int} (hf : ∀ i, i < 3 → f1 i ∈ decL) {h : Nat} {t : Ty} {e : Ex} (he : EOk h t e) (h32 : h ≤ 32) (ht : t.h = 0 ∨ t.h = 1 ∨ t.h = -1) {F F' : RE} (hF : F = evalS N [d0, d1] [⟨n_gross, 3, f0⟩, ⟨n_time, 3, f1⟩] e) (hF' : F' = evalS (N.map msI) [msD d0, d1] [⟨n_gross, 3, f0⟩, ⟨n_time, 3, fun i => scS (f1 i) 1⟩] (meaS 32 e)) :
    F.2 ≠ 4 → F'.2 ≠ 4 → F.2 = F'.2 ∧ (F.2 = 0 → okR F.1.1 F.1.2 = true ∧ F'.1 = scS F.1 t.h) := by
  have hE : EnvS NLv SLv PLv N (N.map msI) [d0, d1] [msD d0, d1] [⟨n_gross, 3, f0⟩, ⟨n_time, 3, f1⟩] [⟨n_gross, 3, f0⟩, ⟨n_time, 3, fun i => scS (f1 i) 1⟩] := ⟨dims_in hN, dims_sc k0 n0 k1 n1 hd, dims_pa hf⟩
  have hv := he.vl 32 h32
  have key := (ev_sc hE 32 e he.lit hv t (he.wt _ _ _ envv 32 h32)).2
  unfold evalS at hF hF'
  rw [if_pos hv] at hF
  rw [if_pos (mea_valid 32 e he.lit hv)] at hF'
  rw [← hF, ← hF'] at key
  intro a b
  obtain ⟨c1, c2⟩ := key a b
  exact ⟨c1, fun h0 => by
    obtain ⟨o1, o2, v⟩ := c2 h0
    exact ⟨o1, sc_fin ht o1 o2 v⟩⟩
end Go.Proofs.YtcghpepighboaaaDoor
