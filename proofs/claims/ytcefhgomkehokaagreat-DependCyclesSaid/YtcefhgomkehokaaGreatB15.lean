/- Plain: what a least shortest cycle is like. -/
import Derived.Test.YtcefhgomkehokaaGreatB14
import Derived.Test.YtcefhgomkehokaaGreatB13
import Derived.Test.YtcefhgomkehokaaGreatB05
set_option linter.unusedSimpArgs false
set_option linter.unusedVariables false
set_option maxRecDepth 100000
namespace Go.Proofs.YtcefhgomkehokaaGreat
theorem wlk_app {L : List (Int × List Int)} {y z : Int} {b : Nat} (h : Wlk L z b y) : ∀ (a : Nat) (x : Int), Wlk L y a x → Wlk L z (a + b) x
  | 0, x, hw => by
    have hw : x = y := hw
    subst hw
    rw [Nat.zero_add]; exact h
  | a + 1, x, ⟨v, hv, hw⟩ => by
    rw [show a + 1 + b = (a + b) + 1 by omega]
    exact ⟨v, hv, wlk_app h a v hw⟩
structure CycOk (L : List (Int × List Int)) (c : List Int) : Prop where
  nx : ∀ i, i < c.length → lF 0 c ((i + 1) % c.length) ∈ sget L (lF 0 c i)
  ge : ∀ i, i < c.length → lF 0 c 0 ≤ lF 0 c i
  nd : ∀ i j, i < j → j < c.length → lF 0 c i ≠ lF 0 c j
theorem lF_cons0 (x : Int) (xs : List Int) : lF 0 (x :: xs) 0 = x := rfl
theorem lF_consS (x : Int) (xs : List Int) (i : Nat) : lF 0 (x :: xs) (i + 1) = lF 0 xs i := by
  unfold lF; rw [List.getD_eq_getElem?_getD, List.getD_eq_getElem?_getD, List.getElem?_cons_succ]
section
variable {N : List Int} {L : List (Int × List Int)} (hG : GrOk N L)
include hG
theorem chn_ok {start : Int} : ∀ (n : Nat) (x : Int), (∃ y, y ∈ sget L x ∧ mget (disS N L start) y = some (n : Int)) → (∀ i, i < n → lF 0 (x :: chn L (disS N L start) n x) (i + 1) ∈ sget L (lF 0 (x :: chn L (disS N L start) n x) i)) ∧ (∀ i, i < n → mget (disS N L start) (lF 0 (x :: chn L (disS N L start) n x) (i + 1)) = some ((n - i : Nat) : Int)) ∧ start ∈ sget L (lF 0 (x :: chn L (disS N L start) n x) n)
  | 0, x, ⟨y, hy, hm⟩ => ⟨fun i hi => absurd hi (Nat.not_lt_zero i), fun i hi => absurd hi (Nat.not_lt_zero i), by
    rw [lF_cons0, ← far_zero hm]; exact hy⟩
  | n + 1, x, h => by
    obtain ⟨f1, f2⟩ := fstN_is h
    obtain ⟨h1, h2, h3⟩ := chn_ok n _ (far_kid hG f2).1
    rw [chn]
    refine ⟨fun i hi => ?_, fun i hi => ?_, ?_⟩
    · cases i with
      | zero => rw [lF_cons0, lF_consS, lF_cons0]; exact f1
      | succ i => rw [lF_consS, lF_consS]; exact h1 i (by omega)
    · cases i with
      | zero => rw [lF_consS, lF_cons0]; exact f2
      | succ i =>
        rw [lF_consS, h2 i (by omega)]
        congr 2; omega
    · rw [lF_consS]; exact h3
theorem bst_ok {start : Int} {k n : Nat} (hk : k < N.length) (hs : lF 0 N k = start) (hD : IsD L start start (n + 1)) (hlt : ∀ j, j < k → ∀ d, IsD L (lF 0 N j) (lF 0 N j) d → n + 1 < d) : CycOk L (cycS N L start) ∧ (cycS N L start).length = n + 1 := by
  have hmk : start ∈ N := by rw [← hs, lF_get' hk]; exact List.getElem_mem _
  rw [cycS_yes hG hmk hD]
  obtain ⟨c1, c2, c3⟩ := chn_ok hG n start (start_kid hG hD).1
  have hlen : (start :: chn L (disS N L start) n start).length = n + 1 := by rw [List.length_cons, chn_len]
  have c0 : lF 0 (start :: chn L (disS N L start) n start) 0 = start := rfl
  generalize start :: chn L (disS N L start) n start = c at *
  have hfar : ∀ i, 1 ≤ i → i < n + 1 → mget (disS N L start) (lF 0 c i) = some ((n + 1 - i : Nat) : Int) := fun i h1 h2 => by
    have := c2 (i - 1) (by omega)
    rw [show i - 1 + 1 = i by omega, show n - (i - 1) = n + 1 - i by omega] at this
    exact this
  have hto : ∀ i, i < n + 1 → Wlk L (lF 0 c i) i start := by
    intro i
    induction i with
    | zero => intro _; exact c0.symm
    | succ i ih =>
      intro hi
      have := wlk_app (L := L) (y := lF 0 c i) (z := lF 0 c (i + 1)) (b := 1) ⟨_, c1 i (by omega), rfl⟩ i start (ih (by omega))
      exact this
  have hback : ∀ i, i < n + 1 → Wlk L start (n + 1 - i) (lF 0 c i) := fun i hi => by
    by_cases e : i = 0
    · subst e
      rw [c0]; exact hD.2.1
    · exact far_sound _ _ (hfar i (by omega) hi)
  have hasc : ∀ i j, i < j → j < N.length → lF 0 N i < lF 0 N j := fun i j hij hj => by
    have := List.pairwise_iff_getElem.1 hG.asc i j (by omega) hj hij
    rwa [lF_get' (by omega), lF_get' hj]
  refine ⟨⟨fun i hi => ?_, fun i hi => ?_, fun i j hij hj => ?_⟩, hlen⟩
  · rw [hlen] at hi ⊢
    by_cases e : i = n
    · subst e
      rw [Nat.mod_self, c0]; exact c3
    · rw [Nat.mod_eq_of_lt (by omega)]
      exact c1 i (by omega)
  · rw [hlen] at hi
    rw [c0]
    obtain ⟨d, hd, hI⟩ := IsD.ex (n := n + 1) (by omega) (by
      have := wlk_app (hto i hi) (n + 1 - i) _ (hback i hi)
      rwa [show n + 1 - i + i = n + 1 by omega] at this)
    have hcN : lF 0 c i ∈ N := by
      obtain ⟨h1, hw, _⟩ := hI
      obtain ⟨d', rfl⟩ : ∃ d', d = d' + 1 := ⟨d - 1, by omega⟩
      obtain ⟨y, hy, _⟩ := hw
      exact (hG.cl _ y hy).1
    obtain ⟨j, hj, e⟩ := List.getElem_of_mem hcN
    rw [← lF_get' hj] at e
    rw [← e, ← hs]
    by_cases hjk : j < k
    · have := hlt j hjk d (by rw [e]; exact hI)
      omega
    · by_cases e2 : j = k
      · subst e2; exact Int.le_refl _
      · exact Int.le_of_lt (hasc k j (by omega) hj)
  · rw [hlen] at hj
    intro e
    by_cases hi0 : i = 0
    · subst hi0
      have h1 := hfar j (by omega) hj
      rw [← e, c0, far_start hG] at h1
      injection h1 with h1
      omega
    · have h1 := hfar i (by omega) (by omega)
      rw [e, hfar j (by omega) hj] at h1
      injection h1 with h1
      omega
variable {W : Nat → List Int} (hW : ∀ a, a < N.length → W a = sget L (lF 0 N a))
include hW
theorem bst_cyc : bstF N L N = [] ∧ (∀ x d, x ∈ N → ¬ IsD L x x d) ∨ CycOk L (bstF N L N) ∧ 0 < (bstF N L N).length ∧ (bstF N L N).length ≤ N.length := by
  have hb := bst_fst hG hW N.length (Nat.le_refl _)
  rw [List.take_length] at hb
  rcases hb with ⟨e1, _, e3⟩ | ⟨k, n, hk, hD, _, e2, _, e4⟩
  · refine .inl ⟨e1, fun x d hx => ?_⟩
    obtain ⟨j, hj, e⟩ := List.getElem_of_mem hx
    rw [← lF_get' hj] at e
    rw [← e]
    exact e3 j hj d
  · have hmk : lF 0 N k ∈ N := by rw [lF_get' hk]; exact List.getElem_mem _
    obtain ⟨h1, h2⟩ := bst_ok hG hk rfl hD e4
    rw [e2]
    refine .inr ⟨h1, by omega, ?_⟩
    rw [h2]; exact isD_le hG hmk hD
end
end Go.Proofs.YtcefhgomkehokaaGreat
namespace Go.Proofs.YtcefhgomkehokaaGreat
abbrev n_m : ByteArray := ⟨#[109]⟩
abbrev n_c : ByteArray := ⟨#[99]⟩
abbrev n_d : ByteArray := ⟨#[100]⟩
abbrev n_e : ByteArray := ⟨#[101]⟩
abbrev n_x : ByteArray := ⟨#[120]⟩
def nmsG : List ByteArray := [n_a, n_b, n_c, n_d, n_e, n_x]
theorem nmsG_ok : ∀ x, x ∈ nmsG → nameS x = true ∧ x.size ≤ 100 := by decide +kernel
theorem nmsG_nd : (nmsG.map fun x => x.toList).Nodup := by decide +kernel
theorem nmG_mem {i : Nat} (hi : i < 6) : lF ⟨#[]⟩ nmsG i ∈ nmsG := by
  unfold lF; rw [List.getD_eq_getElem?_getD, List.getElem?_eq_getElem (show i < nmsG.length from hi)]; exact List.getElem_mem _
theorem nmG_inj {i j : Nat} (hi : i < 6) (hj : j < 6) (h : (lF ⟨#[]⟩ nmsG i).toList = (lF ⟨#[]⟩ nmsG j).toList) : i = j := by
  have hn := nmsG_nd
  have hi2 : i < (nmsG.map fun x => x.toList).length := hi
  have hj2 : j < (nmsG.map fun x => x.toList).length := hj
  refine (List.getElem_inj (h₀ := hi2) (h₁ := hj2) hn).1 ?_
  rw [List.getElem_map, List.getElem_map]
  unfold lF at h
  rw [List.getD_eq_getElem?_getD, List.getD_eq_getElem?_getD, List.getElem?_eq_getElem (show i < nmsG.length from hi), List.getElem?_eq_getElem (show j < nmsG.length from hj)] at h
  exact h
structure EG (n h : Nat) (e : Ex) : Prop where
  bd : Bd e
  vl : ∀ m, h + 1 ≤ m → validS m e = true
  w : e.w ≤ 1 + 3 * h
  rf : ∀ r, r ∈ refsE e → r.op = 3 ∧ ∃ x, x < n ∧ r.nm = lF ⟨#[]⟩ nmsG x
abbrev eOne : Ex := .mk 1 1 1 0 0 0 ⟨#[]⟩ 0 0 0 kn
theorem eg_one (n : Nat) : EG n 0 eOne := ⟨.mk ⟨by decide, by decide, by decide⟩ fun i hi => absurd hi (Nat.not_lt_zero i), fun m hm => by
  obtain ⟨m, rfl⟩ : ∃ m', m = m' + 1 := ⟨m - 1, by omega⟩
  show (decide (((0 : Nat) : Int) = kidsN 1) && (fieldS _ && allK 0 (fun i => validS m (kn i)))) = true
  rw [show fieldS eOne = true from by decide +kernel]
  rfl, by decide, fun r hr => absurd hr (by show ¬ r ∈ ([] : List Ex); simp)⟩
abbrev eRef (x : Nat) : Ex := eNm 3 (lF ⟨#[]⟩ nmsG x) 0 kn
theorem eg_add {n h x : Nat} {e : Ex} (hE : EG n h e) (hx : x < n) (hn : n ≤ 6) : EG n (h + 1) (eOp 5 2 (k2 e (eRef x))) := by
  obtain ⟨k1, k2'⟩ := nmsG_ok _ (nmG_mem (i := x) (by omega))
  have hbd : Bd (eRef x) := .mk ⟨by show (-9223372036854775808 : Int) ≤ 0; decide, by show (0 : Int) ≤ 9223372036854775807; decide, by omega⟩ fun i hi => absurd hi (Nat.not_lt_zero i)
  have hvl : ∀ m, 1 ≤ m → validS m (eRef x) = true := fun m hm => by
    obtain ⟨m, rfl⟩ : ∃ m', m = m' + 1 := ⟨m - 1, by omega⟩
    show (decide (((0 : Nat) : Int) = kidsN 3) && (fieldS _ && allK 0 (fun i => validS m (kn i)))) = true
    rw [show fieldS (eRef x) = true from by simp [fieldS, Ex.op, Ex.vn, Ex.vd, Ex.um, Ex.uh, Ex.ud, Ex.nm, Ex.cnt, Ex.mode, k1]]
    rfl
  refine ⟨.mk ⟨by decide, by decide, by decide⟩ fun i hi => ?_, fun m hm => ?_, ?_, fun r hr => ?_⟩
  · rcases (by omega : i = 0 ∨ i = 1) with rfl | rfl
    · exact hE.bd
    · exact hbd
  · obtain ⟨m, rfl⟩ : ∃ m', m = m' + 1 := ⟨m - 1, by omega⟩
    show (decide (((2 : Nat) : Int) = kidsN 5) && (fieldS _ && allK 2 (fun i => validS m (k2 e (eRef x) i)))) = true
    rw [show fieldS (eOp 5 2 (k2 e (eRef x))) = true from by simp [fieldS, Ex.op, Ex.vn, Ex.vd, Ex.um, Ex.uh, Ex.ud, Ex.nm, Ex.cnt, Ex.mode], allK_iff.2 (fun i hi => by
      rcases (by omega : i = 0 ∨ i = 1) with rfl | rfl
      · exact hE.vl m (by omega)
      · exact hvl m (by omega))]
    rfl
  · have := hE.w
    show (Ex.mk 5 0 0 0 0 0 ⟨#[]⟩ 0 0 2 (k2 e (eRef x))).w ≤ _
    simp only [Ex.w, wS]
    show 1 + (0 + e.w + (Ex.mk 3 0 0 0 0 0 (lF ⟨#[]⟩ nmsG x) 0 0 0 kn).w) ≤ _
    simp only [Ex.w, wS]
    omega
  · have hr : r ∈ ([] : List Ex) ++ (([] ++ refsE e) ++ refsE (eRef x)) := hr
    simp only [List.nil_append, List.mem_append] at hr
    rcases hr with hr | hr
    · exact hE.rf r hr
    · have hr : r ∈ [eRef x] ++ [] := hr
      rw [List.append_nil, List.mem_singleton] at hr
      subst hr
      exact ⟨rfl, x, hx, rfl⟩
structure GrA (n i : Nat) (l : List Df) : Prop where
  len : l.length = i
  at_ : ∀ j, j < i → ∃ e, EG n 2 e ∧ lF dD l j = dR (lF ⟨#[]⟩ nmsG j) t0 0 e
theorem EG.up {n h h' : Nat} {e : Ex} (hE : EG n h e) (hh : h ≤ h') : EG n h' e := ⟨hE.bd, fun m hm => hE.vl m (by omega), by have := hE.w; omega, hE.rf⟩
theorem GrA.snoc {n i : Nat} {l : List Df} {e : Ex} (h : GrA n i l) (he : EG n 2 e) : GrA n (i + 1) (l ++ [dR (lF ⟨#[]⟩ nmsG i) t0 0 e]) := ⟨by rw [List.length_append, h.len]; rfl, fun j hj => by
  by_cases e2 : j = i
  · subst e2
    refine ⟨e, he, ?_⟩
    have := h.len
    rw [← this]; exact lF_at
  · obtain ⟨e', h1, h2⟩ := h.at_ j (by omega)
    refine ⟨e', h1, ?_⟩
    have := h.len
    rw [lF_lt (by omega)]; exact h2⟩
abbrev rAm (k l : Nat) : Row := ⟨.own, true, 1, 2, fun _ => nthP [vs n_m, slP k l]⟩
abbrev graPost (N n : Nat) (g : Nat → Int) : PV → List Row → Prop := fun r rows => ∃ (at' : Int) (k : Nat) (l : List Df), 0 ≤ at' ∧ at' ≤ n ∧ l.length = k + 1 ∧ GrA N N l ∧ r = .agg 2 (nthP [vs n_m, .lsl 2 0 (k + 1)]) ∧ rows = [tapeRow n g at', rAm (k + 1) 2, oRow cD 21 (k + 1) (lF dD l)]
theorem nmsG_row {τ : Nat → Option Nat} {f : Nat → Nat → PV} (h : ∀ a, a < 6 → f a 0 = nthP [vs n_a, vs n_b, vs n_c, vs n_d, vs n_e, vs n_x] a) : RowEq (Row.ren τ ⟨.own, false, 6, 1, f⟩) (oRow cSt 1 6 (lF ⟨#[]⟩ nmsG)) := o_eq cSt_cl (Nat.le_refl _) fun a ha b hb => by
  have ha : a < 6 := ha
  have hb : b < 1 := hb
  obtain rfl : b = 0 := by omega
  rw [h a ha]
  rcases (by omega : a = 0 ∨ a = 1 ∨ a = 2 ∨ a = 3 ∨ a = 4 ∨ a = 5) with rfl | rfl | rfl | rfl | rfl | rfl <;> rfl
theorem argK2n {mem : List Row} {L : List Nat} {l : Nat} {a b : Ex} {p q : List PV} {op vn vd um uh ud : Int} {nm : ByteArray} {cnt mode : Int} (hr : rowAt mem l = some ⟨.own, false, 2, 10, fun x y => nthP (p ++ q) (x * 10 + y)⟩) (hp : p.length = 10) (hL : l ∈ L)
    (h0 : ∀ y, y < 10 → ArgOk mem L (nthP p y) (nthP (cX a) y)) (h1 : ∀ y, y < 10 → ArgOk mem L (nthP q y) (nthP (cX b) y)) : ArgOk mem L (.lsl l 0 2) (.vsl 2 10 (Ex.mk op vn vd um uh ud nm cnt mode 2 (k2 a b)).kc) :=
  argLsl' (r := ⟨.own, false, 2, 10, _⟩) hr trivial hL (by simp) fun x hx y hy => by
    have hy : y < 10 := hy
    show ArgOk mem L (nthP (p ++ q) ((0 + x) * 10 + y)) (nthP (cX (k2 a b x)) y)
    have app : ∀ (u v : List PV) (z : Nat), u.length = 10 → (z < 10 → nthP (u ++ v) z = nthP u z) ∧ nthP (u ++ v) (10 + z) = nthP v z := by
      intro u v z hu
      match u, hu with
      | [u0, u1, u2, u3, u4, u5, u6, u7, u8, u9], _ =>
        refine ⟨fun hz => ?_, ?_⟩
        · rcases c10 hz with rfl | rfl | rfl | rfl | rfl | rfl | rfl | rfl | rfl | rfl <;> rfl
        · rw [Nat.add_comm]; rfl
    rcases (by omega : x = 0 ∨ x = 1) with rfl | rfl
    · rw [show (0 + 0) * 10 + y = y by omega, (app p _ y hp).1 hy]; exact h0 y hy
    · rw [show (0 + 1) * 10 + y = 10 + y by omega, (app p _ y hp).2]; exact h1 y hy
theorem rAm_eq {τ : Nat → Option Nat} {k l l' : Nat} (h : τ l = some l') : RowEq (Row.ren τ (rAm k l)) (rAm k l') := ⟨rfl, rfl, Nat.le_refl _, fun i hi j hj => by
  have hj : j < 2 := hj
  rcases (by omega : j = 0 ∨ j = 1) with rfl | rfl
  · exact PEq.refl _
  · exact peq_slP h⟩
theorem app_p0 {α : Type} {c : α → List PV} (hc : CellsCl c) {τ : Nat → Option Nat} {sz : Nat} {d : α} {l : List α} {y : α} {L : List PV} (hl : l.length = 0) (hL : ∀ b, b < sz → PEq ((nthP L b).ren τ) (nthP (c y) b)) : RowEq (Row.ren τ ⟨.own, false, 1, sz, fun x b => nthP L ((0 + x) * sz + b)⟩) (vRow c sz (0 + 1) (lF d (l ++ [y]))) := ⟨rfl, rfl, Nat.le_refl _, fun i hi j hj => by
  have hi : i < 1 := hi
  obtain rfl : i = 0 := by omega
  have hj : j < sz := hj
  obtain rfl : l = [] := List.eq_nil_of_length_eq_zero hl
  show PEq (PV.ren τ (nthP L ((0 + 0) * sz + j))) (nthP (c y) j)
  rw [show (0 + 0) * sz + j = j by omega]
  exact hL j hj⟩
theorem xone_eq {τ : Nat → Option Nat} {f : Nat → Nat → PV} (h : ∀ b, b < 10 → PEq ((f 0 b).ren τ) (nthP (cX eOne) b) := by intro b hb; rcases c10 hb with rfl | rfl | rfl | rfl | rfl | rfl | rfl | rfl | rfl | rfl <;> first | exact PEq.refl _ | exact peq_nil) : RowEq (Row.ren τ ⟨.own, true, 1, 10, f⟩) (rXE eOne) := ⟨rfl, rfl, Nat.le_refl _, fun a ha b hb => by
  have ha : a < 1 := ha
  obtain rfl : a = 0 := by omega
  exact h b hb⟩
set_option maxHeartbeats 16000000 in
theorem graph_r (N n : Nat) (hN1 : 1 ≤ N) (hN6 : N ≤ 6) (g : Nat → Int) (at_ : Int) (hn : n ≤ 9223372036854775807) (h1' : 0 ≤ at_) (h2' : at_ ≤ n) : RowsC G.P 13 [tapeRow n g at_] [.ptr 0 0 0, vi N] (graPost N n g) := by
  refine rows_of (G := G.toPg) (fn := Tryz.f13) Tryz.func13 rfl rfl rfl ?_; intro Γ hk
  replace hk : Γ.k0 = 1 := hk
  repeat' (first | refine gg ?_ | exact trivial | with_reducible refine wA ?_ ?_ | refine Y2.mk ?_ ?_ | refine gh ?_ | exact qq | fail)
  refine pcan ((can_virt (vRow cD 21 0 (lF dD [])) rfl).trans (can_rowsv [0, 1, 2, 4, 3] (tm := [(0, .ptr 0 0 0), (1, vi N), (4, .ptr 1 0 0), (5, .ptr 2 0 0), (6, .lsl 4 0 6), (7, vi ((0 : Nat) : Int))]) (rows := [tapeRow n g at_, rZA, rAm 0 3, vRow cD 21 0 (lF dD []), oRow cSt 1 6 (lF ⟨#[]⟩ nmsG)]) (k0_sel hk rfl) rfl (.cons rfl (RowEq.cl (tape_cl _ _ _)) (.cons rfl rqq (.cons rfl rqq (.cons rfl (RowEq.cl (v_cl cD_cl _ _ _)) (.cons rfl (nmsG_row fun a ha => by rcases (by omega : a = 0 ∨ a = 1 ∨ a = 2 ∨ a = 3 ∨ a = 4 ∨ a = 5) with rfl | rfl | rfl | rfl | rfl | rfl <;> rfl) .nil))))) tmq)) ?_
  refine ploop (fun q st => ∃ (at' : Int) (i : Nat) (l : List Df), 0 ≤ at' ∧ at' ≤ n ∧ i ≤ N ∧ q = N - i ∧ GrA N i l ∧ st = ⟨[(0, .ptr 0 0 0), (1, vi N), (4, .ptr 1 0 0), (5, .ptr 2 0 0), (6, .lsl 4 0 6), (7, vi i)], [tapeRow n g at', rZA, rAm i 3, vRow cD 21 i (lF dD l), oRow cSt 1 6 (lF ⟨#[]⟩ nmsG)]⟩) N ⟨at_, 0, [], h1', h2', by omega, rfl, ⟨rfl, fun j hj => absurd hj (Nat.not_lt_zero j)⟩, rfl⟩ ?_
  clear h1' h2'
  rintro _ _ ⟨at', i, l, b1, b2, hi, rfl, hA, rfl⟩
  repeat' (first | refine gg ?_ | exact trivial | with_reducible refine wA ?_ ?_ | refine Y2.mk ?_ ?_ | refine gh ?_ | exact qq | fail)
  refine pcond rfl ?_ ?_ <;> intro hc <;> simp at hc
  · have hwi : IntKind.i64.wrap ((i : Int) + 1) = ((i + 1 : Nat) : Int) := w64 (by omega) (by omega)
    repeat' (first | refine gg ?_ | exact trivial | with_reducible refine wA ?_ ?_ | refine Y2.mk ?_ ?_ | (refine tn1 hn ?_; rintro at_ b1 b2 x hx1 hx2) | refine gh ?_ | exact qq | fail)
    obtain ⟨j0, rfl⟩ : ∃ j : Nat, x = j := ⟨x.toNat, by omega⟩
    refine pcan (st' := ⟨[(0, .ptr 0 0 0), (1, vi N), (4, .ptr 1 0 0), (5, .ptr 2 0 0), (6, .lsl 4 0 6), (7, vi i), (8, .ptr 5 0 0), (9, vi j0)], [tapeRow n g at_, rZA, rAm i 3, vRow cD 21 i (lF dD l), oRow cSt 1 6 (lF ⟨#[]⟩ nmsG), rXE eOne]⟩) (can_rowsv [0, 1, 2, 3, 4, 5] (k0_sel hk rfl) rfl (.cons rfl (RowEq.cl (tape_cl _ _ _)) (.cons rfl rqq (.cons rfl (rAm_eq rfl) (.cons rfl (RowEq.cl (v_cl cD_cl _ _ _)) (.cons rfl (RowEq.cl (o_cl cSt_cl _ _ _)) (.cons rfl xone_eq .nil)))))) tmq) ?_
    refine pcutx (fun st => ∃ (at' : Int) (e : Ex), 0 ≤ at' ∧ at' ≤ n ∧ EG N 2 e ∧ st = ⟨[(0, .ptr 0 0 0), (1, vi N), (4, .ptr 1 0 0), (5, .ptr 2 0 0), (6, .lsl 4 0 6), (7, vi i), (8, .ptr 5 0 0)], [tapeRow n g at', rZA, rAm i 3, vRow cD 21 i (lF dD l), oRow cSt 1 6 (lF ⟨#[]⟩ nmsG), rXE e]⟩) ?_ ?_
    · refine ploop (fun q st => ∃ (at' : Int) (j h : Nat) (e : Ex), 0 ≤ at' ∧ at' ≤ n ∧ j + h ≤ 2 ∧ q = j ∧ EG N h e ∧ st = ⟨[(0, .ptr 0 0 0), (1, vi N), (4, .ptr 1 0 0), (5, .ptr 2 0 0), (6, .lsl 4 0 6), (7, vi i), (8, .ptr 5 0 0), (9, vi j)], [tapeRow n g at', rZA, rAm i 3, vRow cD 21 i (lF dD l), oRow cSt 1 6 (lF ⟨#[]⟩ nmsG), rXE e]⟩) j0 ⟨_, j0, 0, eOne, b1, b2, by omega, rfl, eg_one N, rfl⟩ ?_
      clear b1 b2 hx1 hx2
      rintro j _ ⟨at', _, h, e, b1, b2, hj, rfl, hE, rfl⟩
      repeat' (first | refine gg ?_ | exact trivial | with_reducible refine wA ?_ ?_ | refine Y2.mk ?_ ?_ | refine gh ?_ | exact qq | fail)
      refine pcond rfl ?_ ?_ <;> intro hc2 <;> simp at hc2
      · have hwj : IntKind.i64.wrap ((j : Int) - 1) = ((j - 1 : Nat) : Int) := by rw [w64 (by omega) (by omega)]; omega
        repeat' (first | refine gg ?_ | exact trivial | with_reducible refine wA ?_ ?_ | refine Y2.mk ?_ ?_ | refine xs_startH (id := 10) [1,2,3,4,5] true [.take 0, .take 1, .take 2, .take 3, .one 4, .take 5, .take 6, .take 7, .one 8, .take 9, .one 10] 0 rfl (by kernel_rfl) ?_ | (refine tn2 hn ?_; rintro at_ b1 b2 x hx1 hx2) | refine gh ?_ | exact qq | fail)
        refine xdone ?_
        obtain ⟨m, rfl⟩ : ∃ m : Nat, x = m := ⟨x.toNat, by omega⟩
        rw [hwj]
        exact kloop_next (st' := ⟨[(0, .ptr 0 0 0), (1, vi N), (4, .ptr 1 0 0), (5, .ptr 2 0 0), (6, .lsl 4 0 6), (7, vi i), (8, .ptr 5 0 0), (9, vi ((j - 1 : Nat) : Int))], [tapeRow n g at_, rZA, rAm i 3, vRow cD 21 i (lF dD l), oRow cSt 1 6 (lF ⟨#[]⟩ nmsG), rXE (eOp 5 2 (k2 e (eRef (0 + (m : Int).toNat))))]⟩) (j - 1) ((can_frzb [6] 5 (fun _ => nthP (cX (eOp 5 2 (k2 e (eRef (0 + (m : Int).toNat)))))) (tm := [(0, .ptr 0 0 0), (1, vi N), (4, .ptr 1 0 0), (5, .ptr 2 0 0), (6, .lsl 4 0 6), (7, vi i), (8, .ptr 5 0 0), (9, vi ((j - 1 : Nat) : Int))]) (by intro l hl; rw [hk]; simp at hl; omega) rfl rfl rfl (fun a ha b hb => by
          rcases c10 hb with rfl | rfl | rfl | rfl | rfl | rfl | rfl | rfl | rfl | rfl
          all_goals first
            | exact argVal
            | exact argK2n (a := e) (b := eRef (0 + (m : Int).toNat)) (op := 5) (vn := 0) (vd := 0) (um := 0) (uh := 0) (ud := 0) (nm := ⟨#[]⟩) (cnt := 0) (mode := 0) rfl rfl (List.Mem.head _) (fun y hy => argCl (tF_cl cX_cl (fun _ => e) 0 y)) (fun y hy => by rcases c10 hy with rfl | rfl | rfl | rfl | rfl | rfl | rfl | rfl | rfl | rfl <;> first | exact argVal | exact argNil)) (by exact ⟨.inl rfl, .inl rfl, .inl rfl, .inl rfl, .inl rfl, .inl rfl, .inl rfl, .inl rfl, trivial⟩)).trans (can_rowsv [0, 1, 2, 3, 4, 5] (k0_sel hk rfl) rfl (.cons rfl (RowEq.cl (tape_cl _ _ _)) (.cons rfl rqq (.cons rfl (rAm_eq rfl) (.cons rfl (RowEq.cl (v_cl cD_cl _ _ _)) (.cons rfl (RowEq.cl (o_cl cSt_cl _ _ _)) (.cons rfl (RowEq.cl (rXE_cl _)) .nil)))))) tmq)) (by omega) ⟨at_, j - 1, h + 1, _, b1, b2, by omega, rfl, eg_add hE (by omega) hN6, rfl⟩
      · obtain rfl : j = 0 := by omega
        repeat' (first | refine gg ?_ | exact trivial | with_reducible refine wA ?_ ?_ | refine Y2.mk ?_ ?_ | refine gh ?_ | exact qq | fail)
        refine kblock_hit rfl ?_
        exact kcut (st' := ⟨[(0, .ptr 0 0 0), (1, vi N), (4, .ptr 1 0 0), (5, .ptr 2 0 0), (6, .lsl 4 0 6), (7, vi i), (8, .ptr 5 0 0)], [tapeRow n g at', rZA, rAm i 3, vRow cD 21 i (lF dD l), oRow cSt 1 6 (lF ⟨#[]⟩ nmsG), rXE e]⟩) (can_rowsv [0, 1, 2, 3, 4, 5] (k0_sel hk rfl) rfl (.cons rfl (RowEq.cl (tape_cl _ _ _)) (.cons rfl rqq (.cons rfl (rAm_eq rfl) (.cons rfl (RowEq.cl (v_cl cD_cl _ _ _)) (.cons rfl (RowEq.cl (o_cl cSt_cl _ _ _)) (.cons rfl (RowEq.cl (rXE_cl _)) .nil)))))) tmq) ⟨at', e, b1, b2, hE.up (by omega), rfl⟩
    · rintro _ ⟨at', e, b1, b2, hE, rfl⟩
      rcases i with _ | k
      · repeat' (first | refine gg ?_ | exact trivial | with_reducible refine wA ?_ ?_ | refine Y2.mk ?_ ?_ | refine xs_startH (id := 11) [1,2,4,5] true [.take 0, .take 1, .take 2, .take 3, .take 4, .take 5, .take 6, .take 7, .one 8, .one 9, .take 10, .one 11] 0 rfl (by kernel_rfl) ?_ | exact ⟨Nat.le_refl _, (by rw [hk]; exact Nat.le_of_ble_eq_true rfl), Nat.le_of_eq (Nat.zero_add _), (show (_ : Nat) * 216 ≤ 140737488355328 from by omega), (show (_ : Nat) ≤ 9223372036854775807 from by omega)⟩ | refine gh ?_ | exact qq | fail)
        refine xdone ?_
        rw [hwi]
        exact kloop_next (st' := ⟨[(0, .ptr 0 0 0), (1, vi N), (4, .ptr 1 0 0), (5, .ptr 2 0 0), (6, .lsl 4 0 6), (7, vi ((0 + 1 : Nat) : Int))], [tapeRow n g at', rZA, rAm (0 + 1) 3, vRow cD 21 (0 + 1) (lF dD (l ++ [dR (lF ⟨#[]⟩ nmsG 0) t0 0 e])), oRow cSt 1 6 (lF ⟨#[]⟩ nmsG)]⟩) (N - (0 + 1)) (can_rowsv [0, 1, 2, 7, 4] (k0_sel hk rfl) rfl (.cons rfl (RowEq.cl (tape_cl _ _ _)) (.cons rfl rqq (.cons rfl rqq (.cons rfl (app_p0 cD_cl hA.len (fun b hb => by rcases split21 hb with rfl | rfl | rfl | rfl | rfl | rfl | rfl | rfl | rfl | rfl | rfl | rfl | rfl | rfl | rfl | rfl | rfl | rfl | rfl | rfl | rfl <;> first | exact PEq.refl _ | exact peq_nil)) (.cons rfl (RowEq.cl (o_cl cSt_cl _ _ _)) .nil))))) tmq) (by omega) ⟨at', 0 + 1, _, b1, b2, by omega, rfl, hA.snoc hE, rfl⟩
      · have hkk : 0 + ((k + 1 : Nat) : Int).toNat = k + 1 := by omega
        have hkn : PEq (vs (lF ⟨#[]⟩ nmsG (0 + ((k + 1 : Nat) : Int).toNat))) (vs (lF ⟨#[]⟩ nmsG (k + 1))) := by rw [hkk]; exact PEq.refl _
        repeat' (first | refine gg ?_ | exact trivial | with_reducible refine wA ?_ ?_ | refine Y2.mk ?_ ?_ | refine xs_startH (id := 11) [1,2,4,5] true [.take 0, .take 1, .take 2, .take 3, .take 4, .take 5, .take 6, .take 7, .one 8, .one 9, .take 10, .one 11] 0 rfl (by kernel_rfl) ?_ | exact ⟨Nat.le_refl _, (by rw [hk]; exact Nat.le_of_ble_eq_true rfl), Nat.le_of_eq (Nat.zero_add _), (show (_ : Nat) * 216 ≤ 140737488355328 from by omega), (show (_ : Nat) ≤ 9223372036854775807 from by omega)⟩ | refine gh ?_ | exact qq | fail)
        refine xdone ?_
        rw [hwi]
        exact kloop_next (st' := ⟨[(0, .ptr 0 0 0), (1, vi N), (4, .ptr 1 0 0), (5, .ptr 2 0 0), (6, .lsl 4 0 6), (7, vi (((k + 1) + 1 : Nat) : Int))], [tapeRow n g at', rZA, rAm ((k + 1) + 1) 3, vRow cD 21 ((k + 1) + 1) (lF dD (l ++ [dR (lF ⟨#[]⟩ nmsG (k + 1)) t0 0 e])), oRow cSt 1 6 (lF ⟨#[]⟩ nmsG)]⟩) (N - ((k + 1) + 1)) (can_rowsv [0, 1, 2, 7, 4] (k0_sel hk rfl) rfl (.cons rfl (RowEq.cl (tape_cl _ _ _)) (.cons rfl rqq (.cons rfl rqq (.cons rfl (app_p cD_cl hA.len (fun b hb => by rcases split21 hb with rfl | rfl | rfl | rfl | rfl | rfl | rfl | rfl | rfl | rfl | rfl | rfl | rfl | rfl | rfl | rfl | rfl | rfl | rfl | rfl | rfl <;> first | exact PEq.refl _ | exact peq_nil | exact hkn) rfl) (.cons rfl (RowEq.cl (o_cl cSt_cl _ _ _)) .nil))))) tmq) (by omega) ⟨at', (k + 1) + 1, _, b1, b2, by omega, rfl, hA.snoc hE, rfl⟩
  · obtain rfl : i = N := by omega
    repeat' (first | refine gg ?_ | exact trivial | with_reducible refine wA ?_ ?_ | refine Y2.mk ?_ ?_ | refine gh ?_ | exact qq | fail)
    refine kblock_hit rfl ?_
    obtain ⟨k, rfl⟩ : ∃ k, i = k + 1 := ⟨i - 1, by omega⟩
    repeat' (first | refine gg ?_ | exact trivial | with_reducible refine wA ?_ ?_ | refine Y2.mk ?_ ?_ | refine gh ?_ | exact qq | fail)
    exact kretr (st' := ⟨[(4, .ptr 1 0 0)], [tapeRow n g at', rAm (k + 1) 2, oRow cD 21 (k + 1) (lF dD l)]⟩) (can_rowsv [0, 1, 3] (k0_sel hk rfl) rfl (.cons rfl (RowEq.cl (tape_cl _ _ _)) (.cons rfl rqq (.cons rfl (RowEq.cl (o_cl cD_cl _ _ _)) .nil))) tmq) rfl ⟨Nat.zero_lt_one, trivial⟩ rfl ⟨at', k, l, b1, b2, hA.len, hA, rfl, rfl⟩
end Go.Proofs.YtcefhgomkehokaaGreat
namespace Go.Proofs.YtcefhgomkehokaaGreat
theorem nameS_m : nameS n_m = true := by decide +kernel
theorem cyc_wlk {L : List (Int × List Int)} {c : List Int} (h : CycOk L c) (hp : 0 < c.length) : ∃ n, Wlk L (lF 0 c 0) (n + 1) (lF 0 c 0) := by
  have key : ∀ k, k < c.length → Wlk L (lF 0 c 0) (k + 1) (lF 0 c (c.length - 1 - k)) := by
    intro k
    induction k with
    | zero =>
      intro hk
      have := h.nx (c.length - 1) (by omega)
      rw [show (c.length - 1 + 1) % c.length = 0 by rw [show c.length - 1 + 1 = c.length by omega, Nat.mod_self]] at this
      exact ⟨_, this, rfl⟩
    | succ k ih =>
      intro hk
      have := h.nx (c.length - 1 - (k + 1)) (by omega)
      rw [Nat.mod_eq_of_lt (by omega), show c.length - 1 - (k + 1) + 1 = c.length - 1 - k by omega] at this
      exact ⟨_, this, ih (by omega)⟩
  refine ⟨c.length - 1, ?_⟩
  have := key (c.length - 1) (by omega)
  rwa [show c.length - 1 - (c.length - 1) = 0 by omega] at this
theorem ordF_or {Ns : List Int} {L : List (Int × List Int)} : ∀ (f : Nat) (out : List Int), (ordF Ns L f out).2 = 0 ∨ ordF Ns L f out = ([], 11)
  | 0, out => .inl rfl
  | f + 1, out => by
    cases hf : Ns.find? (rdyB L out) with
    | none => exact .inr (ordF_no hf)
    | some x => rw [ordF_yes hf]; exact ordF_or f _
section
variable {N : Nat} {l : List Df} (hA : GrA N N l) (hN6 : N ≤ 6)
include hA
theorem gra_all {d : Df} (hd : d ∈ l) : ∃ j e, j < N ∧ EG N 2 e ∧ lF dD l j = d ∧ d = dR (lF ⟨#[]⟩ nmsG j) t0 0 e := by
  obtain ⟨j, hj, e⟩ := List.getElem_of_mem hd
  have hj2 : j < N := by rw [hA.len] at hj; exact hj
  obtain ⟨x, h1, h2⟩ := hA.at_ j hj2
  have e2 : lF dD l j = d := by unfold lF; rw [List.getD_eq_getElem?_getD, List.getElem?_eq_getElem hj]; exact e
  exact ⟨j, x, hj2, h1, e2, by rw [← e2]; exact h2⟩
include hN6
theorem gra_agr : agrS n_m l = true := by
  unfold agrS
  simp only [Bool.and_eq_true, decide_eq_true_eq, List.all_eq_true]
  refine ⟨nameS_m, by have := hA.len; omega, fun d hd => ?_⟩
  obtain ⟨j, e, hj, he, _, rfl⟩ := gra_all hA hd
  refine ⟨(nmsG_ok _ (nmG_mem (by omega))).1, ?_⟩
  have hu : typS t0 = true := by decide +kernel
  simp [defS, he.vl 32 (by omega), hu, dayS]
theorem gra_bd {d : Df} (hd : d ∈ l) : BdD d := by
  obtain ⟨j, e, hj, he, _, rfl⟩ := gra_all hA hd
  exact ⟨Nat.le_trans (nmsG_ok _ (nmG_mem (i := j) (by omega))).2 (by decide), fun i hi => absurd hi (Nat.not_lt_zero i), Nat.zero_le _, he.bd, by show (-9223372036854775808 : Int) ≤ 0; decide, by show (0 : Int) ≤ 9223372036854775807; decide⟩
theorem gra_ago : AgO n_m l := ⟨by decide, fun d hd => gra_bd hA hN6 hd, fun d hd => by
  obtain ⟨j, e, hj, he, _, rfl⟩ := gra_all hA hd
  exact Nat.le_trans he.w (by decide)⟩
theorem gra_chk : chkE n_m l 0 = 0 := by
  unfold chkE; rw [if_neg (by rw [gra_agr hA hN6]; decide), if_neg (by omega)]
theorem gra_rep (i : Nat) (hi : i < N) : replB l 0 i = false := by
  cases hr : replB l 0 i with
  | false => rfl
  | true =>
    obtain ⟨j, hj, hs⟩ := List.any_eq_true.1 hr
    have hj : j < N := by rw [List.mem_range, hA.len] at hj; exact hj
    obtain ⟨_, h2, _, h4⟩ := of_decide_eq_true hs
    obtain ⟨e1, _, q1⟩ := hA.at_ i hi
    obtain ⟨e2, _, q2⟩ := hA.at_ j hj
    rw [q1, q2] at h2 h4
    have := nmG_inj (i := j) (j := i) (by omega) (by omega) h2
    rcases h4 with h4 | h4
    · exact absurd h4 (Int.lt_irrefl 0)
    · omega
theorem gra_act : actL l 0 = (List.range N).map Int.ofNat := by
  unfold actL actN
  rw [hA.len]
  refine congrArg (List.map Int.ofNat) (List.filter_eq_self.2 fun i hi => ?_)
  have hi := List.mem_range.1 hi
  unfold isAct
  rw [gra_rep hA hN6 i hi]
  obtain ⟨e1, _, q1⟩ := hA.at_ i hi
  rw [q1]
  rfl
theorem gra_nod : nodS l 0 = (List.range N).map Int.ofNat := by
  show (actL l 0).filter _ = _
  rw [gra_act hA hN6]
  refine List.filter_eq_self.2 fun x hx => ?_
  obtain ⟨i, hi, rfl⟩ := List.mem_map.1 hx
  have hi := List.mem_range.1 hi
  obtain ⟨e1, _, q1⟩ := hA.at_ i hi
  show comp (lF dD l (Int.ofNat i).toNat) = true
  rw [show (Int.ofNat i).toNat = i from rfl, q1]
  rfl
theorem gra_err : gErr n_m l 0 = 0 := by
  unfold gErr
  rw [if_neg (fun h => h (gra_chk hA hN6)), if_pos]
  refine List.all_eq_true.2 fun x hx => decide_eq_true ?_
  have hx : x ∈ nodS l 0 := hx
  rw [gra_nod hA hN6] at hx
  obtain ⟨i, hi, rfl⟩ := List.mem_map.1 hx
  have hi := List.mem_range.1 hi
  obtain ⟨e, he, q⟩ := hA.at_ i hi
  rw [show (Int.ofNat i).toNat = i from rfl]
  unfold needS
  rw [if_pos]
  refine List.all_eq_true.2 fun r hr => ?_
  rw [q] at hr
  obtain ⟨ho, x, hx, hn⟩ := he.rf r hr
  have hnone : (List.range l.length).find? (inpB l r.nm) = none := List.find?_eq_none.2 fun j hj => by
    rw [List.mem_range, hA.len] at hj
    obtain ⟨e', _, q'⟩ := hA.at_ j hj
    unfold inpB
    rw [q']
    intro h
    exact absurd (of_decide_eq_true h).1 (show ¬ (3 : Int) = 1 by decide)
  unfold meanI
  rw [if_pos ho, hnone]
  show ((actL l 0).find? (fitB l r)).isSome = true
  rw [List.find?_isSome]
  refine ⟨Int.ofNat x, by rw [gra_act hA hN6]; exact List.mem_map.2 ⟨x, List.mem_range.2 hx, rfl⟩, ?_⟩
  obtain ⟨e', _, q'⟩ := hA.at_ x hx
  unfold fitB
  rw [show (Int.ofNat x).toNat = x from rfl, q', hn]
  exact decide_eq_true ⟨.inl ⟨ho, rfl⟩, rfl⟩
structure GSee (N : Nat) (l : List Df) : Prop where
  yes : (OrdS n_m l 0).2 = 0 → (OrdS n_m l 0).1.length = N ∧ CycS n_m l 0 = []
  no : (OrdS n_m l 0).2 ≠ 0 → OrdS n_m l 0 = ([], 11) ∧ 0 < (CycS n_m l 0).length
  le : (CycS n_m l 0).length ≤ N
  nx : ∀ i, i < (CycS n_m l 0).length → ∃ M, NeedsS n_m l 0 (lF 0 (CycS n_m l 0) i) = (M, 0) ∧ lF 0 (CycS n_m l 0) ((i + 1) % (CycS n_m l 0).length) ∈ M ∧ M.length ≤ N
  ge : ∀ i, i < (CycS n_m l 0).length → lF 0 (CycS n_m l 0) 0 ≤ lF 0 (CycS n_m l 0) i
  nd : ∀ i j, i < j → j < (CycS n_m l 0).length → lF 0 (CycS n_m l 0) i ≠ lF 0 (CycS n_m l 0) j
theorem gra_see : GSee N l := by
  have hg := gra_err hA hN6
  have hG := gr_ok hg
  have hW := wof_ok hg
  have hNl : (nodS l 0).length = N := by rw [gra_nod hA hN6, List.length_map, List.length_range]
  have hO : OrdS n_m l 0 = ordF (nodS l 0) (mapS l 0) (nodS l 0).length [] := by unfold OrdS; rw [if_neg (fun hh => hh hg)]
  have hC : CycS n_m l 0 = bstF (nodS l 0) (mapS l 0) (nodS l 0) := by unfold CycS; rw [if_neg (fun hh => hh hg)]
  have hnd : (nodS l 0).Nodup := hG.asc.imp fun h => Int.ne_of_lt h
  have hb := bst_cyc hG hW
  rw [← hC] at hb
  have hall := gErr_all hg
  refine ⟨fun h0 => ?_, fun h0 => ?_, ?_, ?_, ?_, ?_⟩
  · rw [hO] at h0 ⊢
    obtain ⟨h1, h2⟩ := ordF_inv _ [] (fun q hq => absurd hq (Nat.not_lt_zero q)) h0
    refine ⟨by rw [h2, hNl]; exact Nat.zero_add _, ?_⟩
    rcases hb with hb | ⟨hb, hp, _⟩
    · exact hb.1
    · exfalso
      obtain ⟨n, hn⟩ := cyc_wlk hb hp
      have h0' : (ordF (nodS l 0) (mapS l 0) (nodS l 0).length []).2 = 0 := h0
      obtain ⟨d, _, hd⟩ := IsD.ex (n := n + 1) (by omega) hn
      exact ord_nocyc hG h0' _ d hd
  · rw [hO] at h0 ⊢
    refine ⟨Or.resolve_left (ordF_or _ _) h0, ?_⟩
    obtain ⟨x, n, hx, hD⟩ := ord_cyc hG hnd h0
    rcases hb with hb | ⟨_, hp, _⟩
    · exact absurd hD (hb.2 x _ hx)
    · exact hp
  · rcases hb with hb | ⟨_, _, hp⟩
    · rw [hb.1]; exact Nat.zero_le _
    · rw [← hNl]; exact hp
  · rcases hb with hb | ⟨hb, hp, _⟩
    · rw [hb.1]; exact fun i hi => absurd hi (Nat.not_lt_zero i)
    · intro i hi
      have h1 := hb.nx i hi
      have h2 := (hG.cl _ _ h1).1
      have h3 : sget (mapS l 0) (lF 0 (CycS n_m l 0) i) = (needS l (actL l 0) (lF 0 (CycS n_m l 0) i).toNat).1 := sget_mapL h2
      have h4 := of_decide_eq_true (List.all_eq_true.1 hall _ h2)
      obtain ⟨h5, h6⟩ := List.mem_filter.1 h2
      refine ⟨(needS l (actL l 0) (lF 0 (CycS n_m l 0) i).toNat).1, ?_, h3 ▸ h1, ?_⟩
      · unfold NeedsS
        rw [if_neg (fun h => h (gra_chk hA hN6)), if_pos ⟨h5, h6⟩]
        exact Prod.ext rfl h4
      · rw [needS_all hall h2]
        exact Nat.le_trans (List.length_filter_le _ _) (by rw [gra_act hA hN6, List.length_map, List.length_range]; exact Nat.le_refl _)
  · rcases hb with hb | ⟨hb, _, _⟩
    · rw [hb.1]; exact fun i hi => absurd hi (Nat.not_lt_zero i)
    · exact hb.ge
  · rcases hb with hb | ⟨hb, _, _⟩
    · rw [hb.1]; exact fun i j _ hi => absurd hi (Nat.not_lt_zero j)
    · exact hb.nd
end
end Go.Proofs.YtcefhgomkehokaaGreat
namespace Go.Proofs.YtcefhgomkehokaaGreat
abbrev q_a : ByteArray := ⟨#[97]⟩
abbrev q_b : ByteArray := ⟨#[98]⟩
abbrev q_m : ByteArray := ⟨#[109]⟩
abbrev dQr (nm : ByteArray) (b : ByteArray) : Df := ⟨3, nm, t0, 0, 0, fun _ => (0, 0, 0), .mk 3 0 0 0 0 0 b 0 0 0 kn, 0, 0, 0⟩
def mq2 : List Df := [dQr q_a q_b, dQr q_b q_a]
theorem mq_bd : ∀ d, d ∈ mq2 → BdD d := by
  intro d hd
  simp only [mq2, List.mem_cons, List.not_mem_nil, or_false] at hd
  rcases hd with rfl | rfl
  · exact ⟨by decide, fun i hi => absurd hi (Nat.not_lt_zero i), Nat.zero_le _, .mk ⟨by decide, by decide, by decide⟩ (fun i hi => absurd hi (Nat.not_lt_zero i)), by show (-9223372036854775808 : Int) ≤ 0; decide, by show (0 : Int) ≤ 9223372036854775807; decide⟩
  · exact ⟨by decide, fun i hi => absurd hi (Nat.not_lt_zero i), Nat.zero_le _, .mk ⟨by decide, by decide, by decide⟩ (fun i hi => absurd hi (Nat.not_lt_zero i)), by show (-9223372036854775808 : Int) ≤ 0; decide, by show (0 : Int) ≤ 9223372036854775807; decide⟩
theorem mq_ok : AgO q_m mq2 := ⟨by decide, mq_bd, by
  intro d hd
  simp only [mq2, List.mem_cons, List.not_mem_nil, or_false] at hd
  rcases hd with rfl | rfl
  · exact Nat.le_of_ble_eq_true rfl
  · exact Nat.le_of_ble_eq_true rfl⟩
theorem mq_ord : OrdS q_m mq2 0 = ([], 11) := by decide +kernel
theorem mq_cyc : CycS q_m mq2 0 = [0, 1] := by decide +kernel
theorem mq_nee : NeedsS q_m mq2 0 0 = ([1], 0) := by decide +kernel
theorem mq_act : ActS q_m mq2 0 = [0, 1] := by decide +kernel
theorem mq_dwn : DwnS q_m mq2 0 q_a = [0, 1] := by decide +kernel
abbrev rS2 : Row := ⟨.own, true, 1, 2, fun _ => nthP [vs q_m, .lsl 0 0 2]⟩
set_option maxHeartbeats 4000000 in
theorem sane21_c : PureC G.P 11 [] (fun r => r = vb true) := by
  have c1 := Order_c q_m mq2 0 mq_ok (by decide)
  have c2 := Cycle_c q_m mq2 0 mq_ok (by decide)
  have c3 := Needs_c q_m mq2 0 0 mq_ok (by decide)
  have c4 := Active_c q_m mq2 0 mq_ok (by decide)
  have c5 := Downstream_c q_m mq2 0 q_a mq_ok (by decide)
  rw [mq_ord] at c1
  rw [mq_cyc] at c2
  rw [mq_nee] at c3
  rw [mq_act] at c4
  rw [mq_dwn] at c5
  refine pure_of (G := G.toPg) (fn := Tryz.f11) Tryz.func11 rfl rfl rfl ?_; intro Γ hk
  repeat' (first | refine gg ?_ | exact trivial | with_reducible refine wA ?_ ?_ | refine Y2.mk ?_ ?_ | refine gh ?_ | exact qq | fail)
  refine ocan0 (st' := ⟨[(3, .ptr 1 0 0), (18, .agg 2 (nthP [vs q_m, .lsl 0 0 2]))], [oRow cD 21 2 (lF dD mq2), rS2]⟩) (can_rowsv [2, 3] (k0_sel (show Γ.k0 = 0 from hk) rfl) rfl (.cons rfl (o_eqP (Nat.le_refl _) fun a ha b hb => by
    have hb : b < 21 := hb
    rcases (by omega : a = 0 ∨ a = 1) with rfl | rfl <;> rcases split21 hb with rfl | rfl | rfl | rfl | rfl | rfl | rfl | rfl | rfl | rfl | rfl | rfl | rfl | rfl | rfl | rfl | rfl | rfl | rfl | rfl | rfl <;> first | exact PEq.refl _ | exact peq_nil) (.cons rfl rqq .nil)) (by exact ⟨PEq.refl _, (show PEq (.agg 2 _) (.agg 2 _) from PEq.agg (fun i hi => by rcases (by omega : i = 0 ∨ i = 1) with rfl | rfl <;> exact PEq.refl _)), trivial⟩)) ?_
  refine pop_callc [0] rfl rfl rfl rfl rfl rfl (by intro l hl; rw [show Γ.k0 = 0 from hk]; exact Nat.zero_le _) c1 ⟨argAgr (arg_o (s := .own) cD_cl rfl trivial (List.Mem.head _)), argVal, trivial⟩ ?_
  rintro _ rfl
  repeat' (first | refine gg ?_ | exact trivial | with_reducible refine wA ?_ ?_ | refine Y2.mk ?_ ?_ | refine gh ?_ | exact qq | fail)
  refine pop_callc [0] rfl rfl rfl rfl rfl rfl (by intro l hl; rw [show Γ.k0 = 0 from hk]; exact Nat.zero_le _) c2 ⟨argAgr (arg_o (s := .imm) cD_cl rfl trivial (List.Mem.head _)), argVal, trivial⟩ ?_
  rintro _ rfl
  repeat' (first | refine gg ?_ | exact trivial | with_reducible refine wA ?_ ?_ | refine Y2.mk ?_ ?_ | refine gh ?_ | exact qq | fail)
  refine pop_callc [0] rfl rfl rfl rfl rfl rfl (by intro l hl; rw [show Γ.k0 = 0 from hk]; exact Nat.zero_le _) c3 ⟨argAgr (arg_o (s := .imm) cD_cl rfl trivial (List.Mem.head _)), argVal, argVal, trivial⟩ ?_
  rintro _ rfl
  repeat' (first | refine gg ?_ | exact trivial | with_reducible refine wA ?_ ?_ | refine Y2.mk ?_ ?_ | (intro h; first | exact ⟨h, by decide, by decide⟩ | exact ⟨by decide, by decide⟩ | exact ⟨h, by decide⟩ | exact ⟨h, h, by decide⟩ | exact ⟨h, h, by decide, by decide⟩) | refine gh ?_ | exact qq | fail)
  refine pop_opt 64 rfl rfl ?_
  refine pop_unguard rfl rfl ?_
  refine pop_callc [0] rfl rfl rfl rfl rfl rfl (by intro l hl; rw [show Γ.k0 = 0 from hk]; exact Nat.zero_le _) c4 ⟨argAgr (arg_o (s := .imm) cD_cl rfl trivial (List.Mem.head _)), argVal, trivial⟩ ?_
  rintro _ rfl
  repeat' (first | refine gg ?_ | exact trivial | with_reducible refine wA ?_ ?_ | refine Y2.mk ?_ ?_ | (intro h; first | exact ⟨h, by decide, by decide⟩ | exact ⟨by decide, by decide⟩ | exact ⟨h, by decide⟩ | exact ⟨h, h, by decide⟩ | exact ⟨h, h, by decide, by decide⟩) | refine gh ?_ | exact qq | fail)
  refine pop_opt 70 rfl rfl ?_
  refine pop_unguard rfl rfl ?_
  refine pop_callc [0] rfl rfl rfl rfl rfl rfl (by intro l hl; rw [show Γ.k0 = 0 from hk]; exact Nat.zero_le _) c5 ⟨argAgr (arg_o (s := .imm) cD_cl rfl trivial (List.Mem.head _)), argVal, argVal, trivial⟩ ?_
  rintro _ rfl
  repeat' (first | refine gg ?_ | exact trivial | with_reducible refine wA ?_ ?_ | refine Y2.mk ?_ ?_ | (intro h; first | exact ⟨h, by decide, by decide⟩ | exact ⟨by decide, by decide⟩ | exact ⟨h, by decide⟩ | exact ⟨h, h, by decide⟩ | exact ⟨h, h, by decide, by decide⟩) | refine gh ?_ | exact qq | fail)
  refine xdone ?_
  refine kretv rfl ⟨trivial, trivial⟩ rfl (eqB ?_)
  rfl
end Go.Proofs.YtcefhgomkehokaaGreat
namespace Go.Proofs.YtcefhgomkehokaaGreat
def IntsAt (w : World) (v : Value) (l : List Int) : Prop :=
  ∃ (a : Option Addr) (cap : Nat), v = .slice a l.length cap ∧ l.length ≤ cap ∧ l.length ≤ 9223372036854775807 ∧
    ∀ k, k < l.length → ∃ b off, a = some ⟨b, off, none⟩ ∧ b < w.heap.size ∧ w.cell? ⟨b, off + k, none⟩ = some (.int .i64 (l.getD k 0))
theorem intsAt_of_row {w : World} {a : Option Addr} {len cap : Nat} {zs : List Int} (h : (a = none ∧ len = 0 ∧ cap = 0 ∧ zs = []) ∨ ∃ x, a = some x ∧ len ≤ cap ∧ cap ≤ maxLen ∧ zs.length = cap ∧ (∀ i, i < zs.length → w.cell? (x.add i) = some (.int .i64 (zs.getD i 0))) ∧ ∀ n ∈ zs, (Lit.int .i64 n).wf = true) :
    IntsAt w (.slice a len cap) (zs.take len) := by
  rcases h with ⟨rfl, rfl, rfl, rfl⟩ | ⟨x, rfl, h1, h2, h3, h4, _⟩
  · exact ⟨none, 0, rfl, by simp, by simp, fun k hk => by simp at hk⟩
  · have hl : (zs.take len).length = len := by simp; omega
    unfold maxLen at h2
    refine ⟨some x, cap, by rw [hl], by rw [hl]; omega, by rw [hl]; omega, fun k hk => ?_⟩
    rw [hl] at hk
    have hc := h4 k (by omega)
    have hc0 := h4 0 (by omega)
    obtain ⟨b, off, spot⟩ := x
    have hs : spot = none := by
      cases spot with
      | none => rfl
      | some q =>
        simp only [World.cell?, Addr.add, if_true] at hc0
        split at hc0 <;> simp at hc0
    subst hs
    have hc2 : w.cell? ⟨b, off + k, none⟩ = some (.int .i64 (zs.getD k 0)) := by
      rw [← hc]; congr 1; unfold Addr.add; split <;> simp_all
    refine ⟨b, off, rfl, ?_, by rw [hc2]; simp [List.getElem?_take, hk]⟩
    by_cases hb : b < w.heap.size
    · exact hb
    · simp [World.cell?, Array.getElem?_eq_none (show w.heap.size ≤ b by omega)] at hc2
theorem IntsAt.rel {w : World} {v : Value} {l : List Int} (h : IntsAt w v l) (ρ : Nat → Loc) : VRel 0 ρ (fun b => b < w.heap.size) w (.vsl l.length 1 (tI fun i => l.getD i 0)) v := by
  obtain ⟨a, cap, rfl, hcap, hl, hc⟩ := h
  refine ⟨a, cap, rfl, hcap, ?_⟩
  by_cases h0 : l.length = 0
  · exact .inl h0
  · obtain ⟨b, off, e1, e2, _⟩ := hc 0 (by omega)
    refine .inr ⟨b, off, e1, e2, fun i hi j hj => ?_⟩
    obtain ⟨b', off', f1, f2, f3⟩ := hc i hi
    rw [e1] at f1
    simp only [Option.some.injEq, Addr.mk.injEq] at f1
    obtain ⟨rfl, rfl, _⟩ := f1
    obtain rfl : j = 0 := by omega
    exact ⟨_, by simpa using f3, rfl, rfl⟩
theorem law_of {P : Program} {f : FuncId} {args : List PV} {vs : List Value} {w : World} (h : PureC P f args (fun r => r = vb true)) (ha : ARel (fun _ => ⟨0, 0, 0⟩) (fun b => b < w.heap.size) w args vs) (hG : GOk (fun b => b < w.heap.size) w := by exact fun x hx => by cases hx) :
    Calls P f vs.toArray w fun e w' => e = .returned (.bool true) ∧ Ext w w' :=
  (h.2 _ _ w vs (fun _ h => h) hG ha).mono fun e w' ⟨v, r, h1, h2, h3, h4⟩ => by
    subst h2; exact ⟨by rw [h1, show v = .bool true from h4], h3⟩
end Go.Proofs.YtcefhgomkehokaaGreat
namespace Go.Proofs.YtcefhgomkehokaaGreat
theorem reads_okG (nm : ByteArray) (l : List Df) (day i : Int) (s : ByteArray) (h : AgO nm l) (hl : l.length ≤ 900000) : PureC G.P 8 [vA nm l, vi day, vi i, vs s] (fun r => r = vb true) :=
  reads_c nm l day i s h hl (cyc_eq nm l day).1 (Nat.le_trans (cyc_eq nm l day).2 (by omega))
set_option maxHeartbeats 16000000 in
theorem cycles21_c (n : Nat) (g : Nat → Int) (y : Int) (hn : n ≤ 9223372036854775807) : PureC G.P 4 [.vsl n 1 (tI g), vi y] (fun r => r = vb true) := by
  refine pure_of (G := G.toPg) (fn := Tryz.f4) Tryz.func4 rfl rfl rfl ?_; intro Γ hk
  repeat' (first | refine gg ?_ | exact trivial | with_reducible refine wA ?_ ?_ | refine Y2.mk ?_ ?_ | refine gh ?_ | exact qq | fail)
  refine pop_rowsc [] rfl rfl rfl rfl rfl rfl .nil (new_c n g) (by exact ⟨PEq.refl _, trivial⟩) ?_
  rintro r rows ⟨rfl, rfl⟩
  refine ⟨_, _, rfl, ⟨tape_cl _ _ _, trivial⟩, rfl, ?_⟩
  have hm := mod_c y 6 (by decide) (by decide)
  obtain ⟨N, hN1, hN6, hNe⟩ : ∃ N : Nat, 1 ≤ N ∧ N ≤ 6 ∧ IntKind.i64.wrap (1 + y % 6) = (N : Int) := ⟨(1 + y % 6).toNat, by omega, by omega, by rw [w64 (by omega) (by omega)]; omega⟩
  repeat' (first | refine gg ?_ | exact trivial | with_reducible refine wA ?_ ?_ | refine Y2.mk ?_ ?_ | refine zz hm ?_ | refine gh ?_ | exact qq | fail)
  refine pop_rowsd [0] rfl rfl rfl rfl rfl rfl (by exact .cons rfl trivial (RowEq.cl (tape_cl _ _ _)) .nil) (graph_r N n hN1 hN6 g 0 hn (by omega) (by omega)) (by rw [hNe]; exact ⟨PEq.refl _, PEq.refl _, trivial⟩) ?_
  rintro r rows ⟨at_, k, l, b1, b2, hlk, hA, rfl, rfl⟩
  refine ⟨[tapeRow n g at_, rAm (k + 1) 2, oRow cD 21 (k + 1) (lF dD l)], _, .agg 2 (nthP [vs n_m, .lsl 2 0 (k + 1)]), ⟨RowEq.cl (tape_cl _ _ _), rAm_eq rfl, RowEq.cl (o_cl cD_cl _ _ _), trivial⟩, rfl, peqA rfl, ?_⟩
  have hag := gra_ago hA hN6
  have hlN := hA.len
  have hR := fun day i s => reads_okG n_m l day i s hag (by omega)
  have cO := Order_c n_m l 0 hag (by omega)
  have cC := Cycle_c n_m l 0 hag (by omega)
  have cN := fun i : Int => Needs_c n_m l 0 i hag (by omega)
  obtain ⟨q1, q2, q3, q4, q5, q6⟩ := gra_see hA hN6
  repeat' (first | refine gg ?_ | exact trivial | with_reducible refine wA ?_ ?_ | refine Y2.mk ?_ ?_ | refine gh ?_ | exact qq | fail)
  rw [hNe]
  refine ocan0 (st' := ⟨[(5, .ptr 0 0 0), (6, vi N), (7, .ptr 1 0 0), (26, vA n_m l)], [tapeRow n g at_, rA1 n_m l]⟩) ((can_frzb [2] 3 (fun _ => nthP [vs n_m, vDs l]) (tm := [(5, .ptr 0 0 0), (6, vi N), (7, .ptr 3 0 0), (26, vA n_m l)]) (by intro l hl; rw [hk]; exact Nat.zero_le _) rfl rfl rfl (fun i hi j hj => by
    have hj : j < 2 := hj
    obtain rfl | rfl : j = 0 ∨ j = 1 := by omega
    · exact argVal
    · exact argDs hlk rfl (List.Mem.head _)) (by exact ⟨.inl rfl, .inl rfl, .inl rfl, .inr (argAgr (argDs hlk rfl (List.Mem.head _))), trivial⟩)).trans (can_rowsv [0, 3] (k0_sel hk rfl) rfl (.cons rfl (RowEq.cl (tape_cl _ _ _)) (.cons rfl (RowEq.cl (rA1_cl _ _)) .nil)) (by exact ⟨PEq.refl _, PEq.refl _, PEq.refl _, PEq.cl (vA n_m l) (clA ⟨trivial, trivial, trivial⟩), trivial⟩))) ?_
  generalize OrdS n_m l 0 = Q at *
  generalize CycS n_m l 0 = C at *
  obtain ⟨Q1, Q2⟩ := Q
  have hw0 : IntKind.i64.wrap 0 = 0 := by decide
  by_cases h0 : Q2 = 0
  · obtain ⟨hl, rfl⟩ := q1 h0
    subst h0
    replace hl : Q1.length = N := hl
    replace cO : PureC G.P 14 [vA n_m l, vi 0] (fun r => r = .tup 2 (nthP [sV Q1, vi 0])) := cO
    have hb : ((Q1.length : Int) == (N : Int)) = true := by rw [hl]; exact beq_self_eq_true _
    repeat' (first | refine gg ?_ | exact trivial | with_reducible refine wA ?_ ?_ | refine Y2.mk ?_ ?_ | refine xs_startH (id := 6) [1] true [.take 0, .take 1, .take 2, .one 3, .one 4, .take 5, .take 6, .take 7, .take 8, .take 9, .take 10, .take 11, .take 12, .take 13, .take 14, .take 15, .take 16, .take 17, .take 18, .take 19, .take 20, .take 21] 0 rfl (by kernel_rfl) ?_ | refine xs_start (id := 13) true [.take 0, .take 1, .take 2, .take 3, .take 4, .one 5, .take 6, .take 7, .take 8, .take 9, .take 10] 0 rfl rfl (by kernel_rfl) ?_ | refine xs_start (id := 18) true [.take 0, .take 1, .take 2, .take 3, .take 4, .take 5, .take 6, .take 7, .take 8, .take 9, .take 10, .take 11, .take 12, .take 13, .take 14, .take 15, .take 16] 0 rfl rfl (by kernel_rfl) ?_ | refine xs_start (id := 19) true [.take 0, .take 1, .take 2, .take 3, .take 4, .take 5, .take 6, .take 7, .take 8, .take 9, .take 10, .take 11, .take 12, .take 13, .take 14, .take 15] 0 rfl rfl (by kernel_rfl) ?_ | refine xs_start (id := 24) true [.take 0, .take 1, .take 2, .take 3, .take 4, .take 5, .take 6, .take 7, .take 8] 0 rfl rfl (by kernel_rfl) ?_ | (refine pop_callc [] rfl rfl rfl rfl rfl rfl (fun _ h => by cases h) (cO) (args_cl _ rfl) ?_; rintro _ rfl) | (refine pop_callc [] rfl rfl rfl rfl rfl rfl (fun _ h => by cases h) (cC) (args_cl _ rfl) ?_; rintro _ rfl) | (refine tn2 hn ?_; rintro at_ b1 b2 x hx1 hx2) | refine zz ((hR _ _ _)) ?_ | refine gh ?_ | exact qq | fail)
    rw [hb]
    repeat' (first | refine gg ?_ | exact trivial | with_reducible refine wA ?_ ?_ | refine Y2.mk ?_ ?_ | refine xs_startH (id := 6) [1] true [.take 0, .take 1, .take 2, .one 3, .one 4, .take 5, .take 6, .take 7, .take 8, .take 9, .take 10, .take 11, .take 12, .take 13, .take 14, .take 15, .take 16, .take 17, .take 18, .take 19, .take 20, .take 21] 0 rfl (by kernel_rfl) ?_ | refine xs_start (id := 13) true [.take 0, .take 1, .take 2, .take 3, .take 4, .one 5, .take 6, .take 7, .take 8, .take 9, .take 10] 0 rfl rfl (by kernel_rfl) ?_ | refine xs_start (id := 18) true [.take 0, .take 1, .take 2, .take 3, .take 4, .take 5, .take 6, .take 7, .take 8, .take 9, .take 10, .take 11, .take 12, .take 13, .take 14, .take 15, .take 16] 0 rfl rfl (by kernel_rfl) ?_ | refine xs_start (id := 19) true [.take 0, .take 1, .take 2, .take 3, .take 4, .take 5, .take 6, .take 7, .take 8, .take 9, .take 10, .take 11, .take 12, .take 13, .take 14, .take 15] 0 rfl rfl (by kernel_rfl) ?_ | refine xs_start (id := 24) true [.take 0, .take 1, .take 2, .take 3, .take 4, .take 5, .take 6, .take 7, .take 8] 0 rfl rfl (by kernel_rfl) ?_ | (refine pop_unguard rfl rfl ?_) | refine zz sane21_c ?_ | refine gh ?_ | exact qq | fail)
    refine xdone ?_
    exact kretv rfl ⟨trivial, trivial⟩ rfl rfl
  · obtain ⟨e, hp⟩ := q2 h0
    cases e
    obtain ⟨a, C, rfl⟩ : ∃ a C', C = a :: C' := by
      cases C with
      | nil => exact absurd hp (Nat.lt_irrefl 0)
      | cons a C => exact ⟨a, C, rfl⟩
    replace cO : PureC G.P 14 [vA n_m l, vi 0] (fun r => r = .tup 2 (nthP [sV [], vi 11])) := cO
    replace cC : PureC G.P 15 [vA n_m l, vi 0] (fun r => r = sV (a :: C)) := cC
    generalize hc0 : a :: C = c at *
    have hb : decide ((0 : Int) < (c.length : Int)) = true := decide_eq_true (by omega)
    repeat' (first | refine gg ?_ | exact trivial | with_reducible refine wA ?_ ?_ | refine Y2.mk ?_ ?_ | refine xs_startH (id := 6) [1] true [.take 0, .take 1, .take 2, .one 3, .one 4, .take 5, .take 6, .take 7, .take 8, .take 9, .take 10, .take 11, .take 12, .take 13, .take 14, .take 15, .take 16, .take 17, .take 18, .take 19, .take 20, .take 21] 0 rfl (by kernel_rfl) ?_ | refine xs_start (id := 13) true [.take 0, .take 1, .take 2, .take 3, .take 4, .one 5, .take 6, .take 7, .take 8, .take 9, .take 10] 0 rfl rfl (by kernel_rfl) ?_ | refine xs_start (id := 18) true [.take 0, .take 1, .take 2, .take 3, .take 4, .take 5, .take 6, .take 7, .take 8, .take 9, .take 10, .take 11, .take 12, .take 13, .take 14, .take 15, .take 16] 0 rfl rfl (by kernel_rfl) ?_ | refine xs_start (id := 19) true [.take 0, .take 1, .take 2, .take 3, .take 4, .take 5, .take 6, .take 7, .take 8, .take 9, .take 10, .take 11, .take 12, .take 13, .take 14, .take 15] 0 rfl rfl (by kernel_rfl) ?_ | refine xs_start (id := 24) true [.take 0, .take 1, .take 2, .take 3, .take 4, .take 5, .take 6, .take 7, .take 8] 0 rfl rfl (by kernel_rfl) ?_ | (refine pop_callc [] rfl rfl rfl rfl rfl rfl (fun _ h => by cases h) (cO) (args_cl _ rfl) ?_; rintro _ rfl) | (refine pop_callc [] rfl rfl rfl rfl rfl rfl (fun _ h => by cases h) (cC) (args_cl _ rfl) ?_; rintro _ rfl) | (refine tn2 hn ?_; rintro at_ b1 b2 x hx1 hx2) | refine zz ((hR _ _ _)) ?_ | refine gh ?_ | exact qq | fail)
    rw [hb]
    repeat' (first | refine gg ?_ | exact trivial | with_reducible refine wA ?_ ?_ | refine Y2.mk ?_ ?_ | refine gh ?_ | exact qq | fail)
    have hc6 : c.length ≤ 6 := by omega
    have clc : Cl (sV c) := clB_spec _ rfl
    refine pcan (st' := ⟨[(7, .ptr 0 0 0), (8, sV []), (10, sV c), (11, vi ((0 : Nat) : Int))], [rA1 n_m l]⟩) (can_rowsv [1] (k0_sel hk rfl) rfl (.cons rfl (RowEq.cl (rA1_cl _ _)) .nil) tmq) ?_
    refine ploop (fun q st => ∃ i : Nat, i ≤ c.length ∧ q = c.length - i ∧ st = ⟨[(7, .ptr 0 0 0), (8, sV []), (10, sV c), (11, vi i)], [rA1 n_m l]⟩) c.length ⟨0, Nat.zero_le _, rfl, rfl⟩ ?_
    clear hx1 hx2 b1 b2 hb
    rintro _ _ ⟨i, hi, rfl, rfl⟩
    have hwi : IntKind.i64.wrap ((i : Int) + 1) = ((i + 1 : Nat) : Int) := w64 (by omega) (by omega)
    repeat' (first | refine gg ?_ | exact trivial | with_reducible refine wA ?_ ?_ | refine Y2.mk ?_ ?_ | refine gh ?_ | exact qq | fail)
    refine pcond rfl ?_ ?_ <;> intro hc <;> simp at hc
    · obtain ⟨M, m1, m2, m3⟩ := q4 i hc
      have hit : (i : Int).toNat = i := by omega
      have hrem : (IntKind.i64.wrap ((i : Int) + 1)).tmod (c.length : Int) = (((i + 1) % c.length : Nat) : Int) := by rw [hwi, Int.tmod_eq_emod_of_nonneg (by omega)]; rfl
      have hml := Nat.mod_lt (i + 1) hp
      have hrb : 0 ≤ (IntKind.i64.wrap ((i : Int) + 1)).tmod (c.length : Int) ∧ (IntKind.i64.wrap ((i : Int) + 1)).tmod (c.length : Int) < (c.length : Int) := by rw [hrem]; omega
      have cNi : PureC G.P 16 [vA n_m l, vi 0, vi (lF 0 c (i : Int).toNat)] (fun r => r = .tup 2 (nthP [sV M, vi 0])) := by
        have := cN (lF 0 c i)
        rw [m1] at this
        rw [hit]; exact this
      repeat' (first | refine gg ?_ | exact trivial | with_reducible refine wA ?_ ?_ | refine Y2.mk ?_ ?_ | refine xs_startH (id := 13) [0] true [.take 0, .take 1, .take 2, .take 3, .take 4, .one 5, .take 6, .take 7, .take 8, .take 9, .take 10] 0 rfl (by kernel_rfl) ?_ | (refine xs_one (ch := []) rfl rfl rfl (pst_rowsc [] rfl rfl rfl rfl rfl rfl .nil (pure_rows (cNi)) (by exact ⟨PEq.cl _ (clB_spec _ rfl), PEq.cl _ (clB_spec _ rfl), PEq.cl _ (clB_spec _ rfl), trivial⟩) ?_); rintro r rows ⟨rfl, rfl⟩; refine ⟨_, _, rfl, trivial, rfl, ?_⟩) | refine gh ?_ | exact qq | fail)
      refine pcan (st' := ⟨[(7, .ptr 0 0 0), (8, sV []), (10, sV c), (11, vi i), (12, sV M), (13, vi 0), (14, vb false), (15, vi ((0 : Nat) : Int))], [rA1 n_m l]⟩) (can_rowsv [0] (k0_sel hk rfl) rfl (.cons rfl (RowEq.cl (rA1_cl _ _)) .nil) tmq) ?_
      refine pcutx (fun st => st = ⟨[(7, .ptr 0 0 0), (8, sV []), (10, sV c), (11, vi i), (13, vi 0), (14, vb true)], [rA1 n_m l]⟩) ?_ ?_
      · refine ploop (fun q st => ∃ (j : Nat) (b : Bool), j ≤ M.length ∧ (b = true ∨ ∃ p, j ≤ p ∧ p < M.length ∧ lF 0 M p = lF 0 c ((i + 1) % c.length)) ∧ q = M.length - j ∧ st = ⟨[(7, .ptr 0 0 0), (8, sV []), (10, sV c), (11, vi i), (12, sV M), (13, vi 0), (14, vb b), (15, vi j)], [rA1 n_m l]⟩) M.length ⟨0, false, Nat.zero_le _, .inr (by
          obtain ⟨p, hp, e⟩ := List.getElem_of_mem m2
          exact ⟨p, Nat.zero_le _, hp, by rw [lF_get' hp]; exact e⟩), rfl, rfl⟩ ?_
        rintro _ _ ⟨j, b, hj, hb, rfl, rfl⟩
        have hwj : IntKind.i64.wrap ((j : Int) + 1) = ((j + 1 : Nat) : Int) := w64 (by omega) (by omega)
        repeat' (first | refine gg ?_ | exact trivial | with_reducible refine wA ?_ ?_ | refine Y2.mk ?_ ?_ | refine gh ?_ | exact qq | fail)
        refine pcond rfl ?_ ?_ <;> intro hc2 <;> simp at hc2
        · have hjb : (j : Int).toNat < M.length := by omega
          have hjt : (j : Int).toNat = j := by omega
          rcases b with _ | _
          · repeat' (first | refine gg ?_ | exact trivial | with_reducible refine wA ?_ ?_ | refine Y2.mk ?_ ?_ | refine xs_start (id := 18) true [.take 0, .take 1, .take 2, .take 3, .take 4, .take 5, .take 6, .take 7, .take 8, .take 9, .take 10, .take 11, .take 12, .take 13, .take 14, .take 15, .take 16] 0 rfl rfl (by kernel_rfl) ?_ | (exact fun _ => hrb) | (exact fun _ => hjb) | refine gh ?_ | exact qq | fail)
            refine xdone ?_
            rw [hwj]
            exact kloop_next (st' := ⟨[(7, .ptr 0 0 0), (8, sV []), (10, sV c), (11, vi i), (12, sV M), (13, vi 0), (14, vb (lF 0 M (j : Int).toNat == lF 0 c ((IntKind.i64.wrap ((i : Int) + 1)).tmod (c.length : Int)).toNat)), (15, vi ((j + 1 : Nat) : Int))], [rA1 n_m l]⟩) (M.length - (j + 1)) (can_rowsv [0] (k0_sel hk rfl) rfl (.cons rfl (RowEq.cl (rA1_cl _ _)) .nil) tmq) (by omega) ⟨j + 1, (lF 0 M (j : Int).toNat == lF 0 c ((IntKind.i64.wrap ((i : Int) + 1)).tmod (c.length : Int)).toNat), by omega, by
              rcases hb with hb | ⟨p, h1, h2, h3⟩
              · cases hb
              · by_cases e : p = j
                · subst e
                  refine .inl ?_
                  rw [hrem, hjt, show (((i + 1) % c.length : Nat) : Int).toNat = (i + 1) % c.length from rfl, h3]
                  exact beq_self_eq_true _
                · exact .inr ⟨p, by omega, h2, h3⟩, rfl, rfl⟩
          · repeat' (first | refine gg ?_ | exact trivial | with_reducible refine wA ?_ ?_ | refine Y2.mk ?_ ?_ | refine xs_start (id := 18) true [.take 0, .take 1, .take 2, .take 3, .take 4, .take 5, .take 6, .take 7, .take 8, .take 9, .take 10, .take 11, .take 12, .take 13, .take 14, .take 15, .take 16] 0 rfl rfl (by kernel_rfl) ?_ | (exact fun h => absurd h (by decide)) | refine gh ?_ | exact qq | fail)
            refine xdone ?_
            rw [hwj]
            exact kloop_next (st' := ⟨[(7, .ptr 0 0 0), (8, sV []), (10, sV c), (11, vi i), (12, sV M), (13, vi 0), (14, vb true), (15, vi ((j + 1 : Nat) : Int))], [rA1 n_m l]⟩) (M.length - (j + 1)) (can_rowsv [0] (k0_sel hk rfl) rfl (.cons rfl (RowEq.cl (rA1_cl _ _)) .nil) tmq) (by omega) ⟨j + 1, true, by omega, .inl rfl, rfl, rfl⟩
        · obtain rfl : b = true := hb.resolve_right (by rintro ⟨p, h1, h2, _⟩; omega)
          repeat' (first | refine gg ?_ | exact trivial | with_reducible refine wA ?_ ?_ | refine Y2.mk ?_ ?_ | refine gh ?_ | exact qq | fail)
          refine kblock_hit rfl ?_
          exact kcut (st' := ⟨[(7, .ptr 0 0 0), (8, sV []), (10, sV c), (11, vi i), (13, vi 0), (14, vb true)], [rA1 n_m l]⟩) (can_rowsv [0] (k0_sel hk rfl) rfl (.cons rfl (RowEq.cl (rA1_cl _ _)) .nil) tmq) rfl
      · rintro _ rfl
        have hib : (i : Int).toNat < c.length := by omega
        repeat' (first | refine gg ?_ | exact trivial | with_reducible refine wA ?_ ?_ | refine Y2.mk ?_ ?_ | refine xs_start (id := 19) true [.take 0, .take 1, .take 2, .take 3, .take 4, .take 5, .take 6, .take 7, .take 8, .take 9, .take 10, .take 11, .take 12, .take 13, .take 14, .take 15] 0 rfl rfl (by kernel_rfl) ?_ | (exact fun _ => hib) | (exact fun _ => hp) | refine gh ?_ | exact qq | fail)
        rw [show decide (lF 0 c (i : Int).toNat < lF 0 c (Int.toNat 0)) = false from decide_eq_false (by have := q5 i hc; rw [hit]; show ¬ lF 0 c i < lF 0 c 0; omega)]
        repeat' (first | refine gg ?_ | exact trivial | with_reducible refine wA ?_ ?_ | refine Y2.mk ?_ ?_ | refine xs_start (id := 19) true [.take 0, .take 1, .take 2, .take 3, .take 4, .take 5, .take 6, .take 7, .take 8, .take 9, .take 10, .take 11, .take 12, .take 13, .take 14, .take 15] 0 rfl rfl (by kernel_rfl) ?_ | refine gh ?_ | exact qq | fail)
        refine pcan (st' := ⟨[(7, .ptr 0 0 0), (8, sV []), (10, sV c), (11, vi i), (16, vi ((0 : Nat) : Int))], [rA1 n_m l]⟩) (can_rowsv [0] (k0_sel hk rfl) rfl (.cons rfl (RowEq.cl (rA1_cl _ _)) .nil) tmq) ?_
        refine ploop (fun q st => ∃ p : Nat, p ≤ i ∧ q = i - p ∧ st = ⟨[(7, .ptr 0 0 0), (8, sV []), (10, sV c), (11, vi i), (16, vi p)], [rA1 n_m l]⟩) i ⟨0, Nat.zero_le _, rfl, rfl⟩ ?_
        rintro _ _ ⟨p, hpi, rfl, rfl⟩
        have hwp : IntKind.i64.wrap ((p : Int) + 1) = ((p + 1 : Nat) : Int) := w64 (by omega) (by omega)
        repeat' (first | refine gg ?_ | exact trivial | with_reducible refine wA ?_ ?_ | refine Y2.mk ?_ ?_ | refine gh ?_ | exact qq | fail)
        refine pcond rfl ?_ ?_ <;> intro hc3 <;> simp at hc3
        · have hpb : (p : Int).toNat < c.length := by omega
          have hpt : (p : Int).toNat = p := by omega
          repeat' (first | refine gg ?_ | exact trivial | with_reducible refine wA ?_ ?_ | refine Y2.mk ?_ ?_ | refine xs_start (id := 24) true [.take 0, .take 1, .take 2, .take 3, .take 4, .take 5, .take 6, .take 7, .take 8] 0 rfl rfl (by kernel_rfl) ?_ | (exact hpb) | (exact hib) | refine gh ?_ | exact qq | fail)
          rw [show (lF 0 c (p : Int).toNat == lF 0 c (i : Int).toNat) = false from beq_eq_false_iff_ne.2 (by rw [hit, hpt]; exact q6 p i hc3 hc)]
          repeat' (first | refine gg ?_ | exact trivial | with_reducible refine wA ?_ ?_ | refine Y2.mk ?_ ?_ | refine gh ?_ | exact qq | fail)
          refine xdone ?_
          rw [hwp]
          exact kloop_next (st' := ⟨[(7, .ptr 0 0 0), (8, sV []), (10, sV c), (11, vi i), (16, vi ((p + 1 : Nat) : Int))], [rA1 n_m l]⟩) (i - (p + 1)) (can_rowsv [0] (k0_sel hk rfl) rfl (.cons rfl (RowEq.cl (rA1_cl _ _)) .nil) tmq) (by omega) ⟨p + 1, by omega, rfl, rfl⟩
        · obtain rfl : p = i := by omega
          repeat' (first | refine gg ?_ | exact trivial | with_reducible refine wA ?_ ?_ | refine Y2.mk ?_ ?_ | refine gh ?_ | exact qq | fail)
          refine xdone ?_
          rw [hwi]
          exact kloop_next (st' := ⟨[(7, .ptr 0 0 0), (8, sV []), (10, sV c), (11, vi ((p + 1 : Nat) : Int))], [rA1 n_m l]⟩) (c.length - (p + 1)) (can_rowsv [0] (k0_sel hk rfl) rfl (.cons rfl (RowEq.cl (rA1_cl _ _)) .nil) tmq) (by omega) ⟨p + 1, by omega, rfl, rfl⟩
    · obtain rfl : i = c.length := by omega
      repeat' (first | refine gg ?_ | exact trivial | with_reducible refine wA ?_ ?_ | refine Y2.mk ?_ ?_ | (refine pop_unguard rfl rfl ?_) | refine zz sane21_c ?_ | refine gh ?_ | exact qq | fail)
      refine xdone ?_
      exact kretv rfl ⟨trivial, trivial⟩ rfl rfl
theorem depCycles_walk (v : Value) (l : List Int) (x : Int) (w : World) (h : IntsAt w v l) : Calls G.P 4 #[v, .int .i64 x] w fun e w' => e = .returned (.bool true) ∧ Ext w w' := by
  have hl : l.length ≤ 9223372036854775807 := by obtain ⟨_, _, _, _, h, _⟩ := h; exact h
  exact law_of (vs := [v, .int .i64 x]) (cycles21_c l.length _ x hl) ⟨h.rel _, rfl, trivial⟩
end Go.Proofs.YtcefhgomkehokaaGreat
