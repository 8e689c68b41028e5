/- The reference's Cycle. -/
import Derived.Test.YtcefhgomkehokaaGreatB12
import Derived.Test.YtcefhgomkehokaaGreatB11
import Derived.Test.YtcefhgomkehokaaGreatB08
import Derived.Test.YtcefhgomkehokaaGreatB09
set_option linter.unusedSimpArgs false
set_option linter.unusedVariables false
set_option maxRecDepth 100000
namespace Go.Proofs.YtcefhgomkehokaaGreat
def cycD (N : List Int) (W : Nat → List Int) (i : Nat) : Int := pthG N W (lF 0 N i) N.length i
def fstS (N : List Int) (W : Nat → List Int) : Nat → Int × Int
  | 0 => (0, -1)
  | i + 1 => if 0 < cycD N W i ∧ ((fstS N W i).2 < 0 ∨ cycD N W i < (fstS N W i).1) then (cycD N W i, i) else fstS N W i
theorem fstS_in {N : List Int} {W : Nat → List Int} : ∀ i, -1 ≤ (fstS N W i).2 ∧ (fstS N W i).2 < i ∧ 0 ≤ (fstS N W i).1 ∧ (fstS N W i).1 ≤ N.length
  | 0 => ⟨by show (-1 : Int) ≤ -1; decide, by show (-1 : Int) < ((0 : Nat) : Int); decide, by show (0 : Int) ≤ 0; decide, Int.natCast_nonneg _⟩
  | i + 1 => by
    have ih := fstS_in (N := N) (W := W) i
    have hd := pthG_le (N := N) (W := W) (t := lF 0 N i) N.length i
    rw [fstS]
    split
    · exact ⟨by show (-1 : Int) ≤ (i : Int); omega, by show (i : Int) < ((i + 1 : Nat) : Int); omega, hd.1, hd.2⟩
    · exact ⟨ih.1, by omega, ih.2.2⟩
def nxtC (N : List Int) (W : Nat → List Int) (d : Nat → Int) (at_ : Nat) (m : Int) (k : Nat) : Bool := decide (lF 0 N k ∈ W at_) && decide (d k = m)
def nxtK (N : List Int) (W : Nat → List Int) (d : Nat → Int) (at_ : Nat) (m : Int) : Nat := ((List.range (N.length - 1)).find? (nxtC N W d at_ m)).getD (N.length - 1)
def cycL (N : List Int) (W : Nat → List Int) (d : Nat → Int) : Nat → Nat → List Int → List Int
  | 0, _, out => out
  | m + 1, at_, out => cycL N W d m (nxtK N W d at_ ((m + 1 : Nat) : Int)) (out ++ [lF 0 N (nxtK N W d at_ ((m + 1 : Nat) : Int))])
def cyc21 (N : List Int) (W : Nat → List Int) : List Int :=
  if (fstS N W N.length).2 < 0 then [] else cycL N W (pthG N W (lF 0 N (fstS N W N.length).2.toNat) N.length) ((fstS N W N.length).1 - 1).toNat (fstS N W N.length).2.toNat [lF 0 N (fstS N W N.length).2.toNat]
theorem nxtK_lt {N : List Int} {W : Nat → List Int} {d : Nat → Int} {at_ : Nat} {m : Int} (h : 1 ≤ N.length) : nxtK N W d at_ m < N.length := by
  unfold nxtK
  cases hf : (List.range (N.length - 1)).find? (nxtC N W d at_ m) with
  | none => show N.length - 1 < _; omega
  | some k =>
    have := List.mem_range.1 (List.mem_of_find?_eq_some hf)
    show k < _; omega
abbrev Wof (l : List Df) (A N : List Int) : Nat → List Int := fun a => needL l A (refsE (lF dD l (lF 0 N a).toNat).body)
def Cyc21S (nm : ByteArray) (l : List Df) (day : Int) : List Int := if (OrdS nm l day).2 = 11 then cyc21 (nodS l day) (Wof l (actL l day) (nodS l day)) else []
theorem ord_err {N : List Int} {L : List (Int × List Int)} : ∀ (f : Nat) (out : List Int), (ordF N L f out).2 = 0 ∨ (ordF N L f out).2 = 11
  | 0, out => .inl rfl
  | f + 1, out => by
    cases h : N.find? (rdyB L out) with
    | none => rw [ordF_no h]; exact .inr rfl
    | some x => rw [ordF_yes h]; exact ord_err f _
theorem ord_chk {nm : ByteArray} {l : List Df} {day : Int} (h : (OrdS nm l day).2 = 11 ∨ (OrdS nm l day).2 = 0) : gErr nm l day = 0 := by
  unfold OrdS at h
  by_cases hg : gErr nm l day = 0
  · exact hg
  · rw [if_pos hg] at h
    have hE : gErr nm l day = 1 ∨ gErr nm l day = 2 ∨ gErr nm l day = 7 ∨ gErr nm l day = 0 := by
      unfold gErr chkE
      repeat' split
      all_goals omega
    have h : gErr nm l day = 11 ∨ gErr nm l day = 0 := h
    omega
theorem gErr_chk' {nm : ByteArray} {l : List Df} {day : Int} (h : gErr nm l day = 0) : chkE nm l day = 0 := by
  unfold gErr at h
  by_cases hc : chkE nm l day = 0
  · exact hc
  · rw [if_pos hc] at h; exact absurd h hc
theorem row1_eq {τ : Nat → Option Nat} {f : Nat → Nat → PV} {x : Int} (h : f 0 0 = vi x) : RowEq (Row.ren τ ⟨.own, false, 1, 1, f⟩) (vRow c1 1 (0 + 1) (lF 0 [x])) := ⟨rfl, rfl, Nat.le_refl _, fun a ha b hb => by
  have ha : a < 1 := ha
  have hb : b < 1 := hb
  obtain rfl : a = 0 := by omega
  obtain rfl : b = 0 := by omega
  show PEq ((f 0 0).ren τ) (vi x)
  rw [h]; exact PEq.refl _⟩
set_option maxHeartbeats 16000000 in
theorem Cycle21_c (nm : ByteArray) (l : List Df) (day : Int) (h : AgO nm l) (hl : l.length ≤ 900000) : PureC G.P 33 [vA nm l, vi day] (fun r => r = sV (Cyc21S nm l day)) := by
  have cO := Order21_c nm l day h hl
  have cA := Active21_c nm l day h (by omega)
  unfold Cyc21S
  by_cases h11 : (OrdS nm l day).2 = 11
  · have hck := gErr_chk' (ord_chk (.inl h11))
    have ha := chk_valid hck
    have hAS : ActS nm l day = actL l day := by unfold ActS; rw [if_pos hck]
    rw [if_pos h11]
    rw [h11] at cO
    generalize (OrdS nm l day).1 = Oo at cO
    have hAl := actL_len l day
    have hin := actL_in (l := l) (day := day)
    have hNl : (nodS l day).length ≤ l.length := nodS_len l day
    have hNm : ∀ x, x ∈ nodS l day → x ∈ actL l day ∧ comp (lF dD l x.toNat) = true := fun x hx => List.mem_filter.1 hx
    have cR := routines21_c nm l (actL l day) (by omega) (by omega) hin
    have cR : PureC G.P 52 [vA nm l, sV (actL l day)] (fun r => r = sV (nodS l day)) := cR
    rw [hAS] at cA
    generalize nodS l day = N at *
    generalize actL l day = A at *
    obtain ⟨W, hW⟩ : ∃ W, W = Wof l A N := ⟨_, rfl⟩
    rw [← hW]
    have hNx : ∀ a, a < N.length → lF 0 N a ∈ A ∧ comp (lF dD l (lF 0 N a).toNat) = true ∧ 0 ≤ lF 0 N a ∧ lF 0 N a < l.length := fun a ha2 => by
      have h1 := hNm (lF 0 N a) (by rw [lF_get' ha2]; exact List.getElem_mem ha2)
      exact ⟨h1.1, h1.2, hin _ h1.1⟩
    have hWl : ∀ a, (W a).length ≤ 1000000 := fun a => by
      rw [hW]
      have h1 : (needL l A (refsE (lF dD l (lF 0 N a).toNat).body)).length ≤ A.length := needL_len
      show (needL l A (refsE (lF dD l (lF 0 N a).toNat).body)).length ≤ _
      omega
    refine pure_of (G := G.toPg) (fn := Tryz.f33) Tryz.func33 rfl rfl rfl ?_; intro Γ hk
    repeat' (first | refine gg ?_ | exact trivial | with_reducible refine wA ?_ ?_ | refine Y2.mk ?_ ?_ | (refine pop_callc [] rfl rfl rfl rfl rfl rfl (fun _ h => by cases h) (cO) (args_cl _ rfl) ?_; rintro _ rfl) | (refine pop_callc [] rfl rfl rfl rfl rfl rfl (fun _ h => by cases h) (cA) (args_cl _ rfl) ?_; rintro _ rfl) | (refine pop_callc [] rfl rfl rfl rfl rfl rfl (fun _ h => by cases h) (cR) (args_cl _ rfl) ?_; rintro _ rfl) | (exact ⟨by omega, by omega, by omega, by show (_ : Int) * 24 ≤ _; omega⟩) | refine gh ?_ | exact qq | fail)
    refine pcan (st' := ⟨[(2, .ptr 0 0 0), (7, sV A), (8, sV N), (9, .lsl 1 0 N.length), (10, vi ((0 : Nat) : Int))], [rA1 nm l, wR N.length 0 W]⟩) (can_rowsv [0, 1] (k0_sel hk rfl) rfl (.cons rfl (RowEq.cl (rA1_cl _ _)) (.cons rfl (wR_zero fun a ha => rfl) .nil)) tmq) ?_
    refine ploop (fun z st => ∃ i : Nat, i ≤ N.length ∧ z = N.length - i ∧ st = ⟨[(2, .ptr 0 0 0), (7, sV A), (8, sV N), (9, .lsl 1 0 N.length), (10, vi i)], [rA1 nm l, wR N.length i W]⟩) N.length ⟨0, by omega, by omega, rfl⟩ ?_
    rintro _ _ ⟨i, hi, rfl, rfl⟩
    have hw1 : IntKind.i64.wrap ((i : Int) + 1) = ((i + 1 : Nat) : Int) := w64 (by omega) (by omega)
    repeat' (first | refine gg ?_ | exact trivial | with_reducible refine wA ?_ ?_ | refine Y2.mk ?_ ?_ | refine gh ?_ | exact qq | fail)
    refine pcond rfl ?_ ?_ <;> intro hc
    · have hc : i < N.length := by have := of_decide_eq_true hc; omega
      obtain ⟨x1, x2, x3⟩ := hNx i hc
      have cn := needsI_c nm l A (lF 0 N i) x3 (by omega) (by omega) hin (h.body ha (by omega) x2)
      repeat' (first | refine gg ?_ | exact trivial | with_reducible refine wA ?_ ?_ | refine Y2.mk ?_ ?_ | refine xs_startH (id := 10) [0] true [.take 0, .take 1, .take 2, .take 3, .take 4, .take 5, .take 6, .take 7, .one 8, .take 9, .take 10, .take 11, .one 12, .one 13] 0 rfl (by kernel_rfl) ?_ | refine xs_start (id := 27) true [.take 0, .take 1, .take 2, .take 3, .take 4, .take 5, .take 6, .take 7, .take 8, .take 9, .take 10, .take 11, .take 12, .take 13, .one 14, .take 15, .take 16, .take 17, .take 18, .take 19, .take 20, .take 21, .take 22, .take 23, .take 24] 0 rfl rfl (by kernel_rfl) ?_ | (refine xs_one (ch := []) rfl rfl rfl (pst_rowsc [] rfl rfl rfl rfl rfl rfl .nil (pure_rows (cn)) (by exact ⟨PEq.cl _ (clB_spec _ rfl), PEq.cl _ (clB_spec _ rfl), PEq.cl _ (clB_spec _ rfl), trivial⟩) ?_); rintro r rows ⟨rfl, rfl⟩; refine ⟨_, _, rfl, trivial, rfl, ?_⟩) | (exact (show 0 + (i : Int).toNat < N.length by omega)) | (exact ⟨(show (0 : Int) ≤ (i : Int) by omega), (show (i : Int) < (N.length : Int) by omega)⟩) | refine gh ?_ | exact qq | fail)
      refine xdone ?_
      rw [hw1]
      exact kloop_next (st' := ⟨[(2, .ptr 0 0 0), (7, sV A), (8, sV N), (9, .lsl 1 0 N.length), (10, vi ((i + 1 : Nat) : Int))], [rA1 nm l, wR N.length (i + 1) W]⟩) (N.length - (i + 1)) (can_rowsv [0, 1] (k0_sel hk rfl) rfl (.cons rfl (RowEq.cl (rA1_cl _ _)) (.cons rfl (wR_upd (Nat.zero_add _) (by rw [hW])) .nil)) tmq) (by omega) ⟨i + 1, by omega, rfl, rfl⟩
    · have hil : i = N.length := by have := of_decide_eq_false hc; omega
      subst hil
      repeat' (first | refine gg ?_ | exact trivial | with_reducible refine wA ?_ ?_ | refine Y2.mk ?_ ?_ | refine gh ?_ | exact qq | fail)
      refine pcan (st' := ⟨[(8, sV N), (9, .lsl 0 0 N.length), (11, vi (fstS N W 0).1), (12, vi (fstS N W 0).2), (13, vi ((0 : Nat) : Int))], [oRow cSl 1 N.length W]⟩) (can_rowsv [1] (k0_sel hk rfl) rfl (.cons rfl wR_all .nil) tmq) ?_
      refine pcan ((can_frz [0] (by intro l hl; rw [hk]; exact Nat.zero_le _) rfl (tm := [(8, sV N), (9, .vsl N.length 1 (tF cSl W)), (11, vi (fstS N W 0).1), (12, vi (fstS N W 0).2), (13, vi ((0 : Nat) : Int))]) (by exact ⟨.inl rfl, .inr (arg_o (s := .own) cSl_cl rfl trivial (List.Mem.head _)), .inl rfl, .inl rfl, .inl rfl, trivial⟩)).trans (can_rowsv [] (rows := []) (tm := [(8, sV N), (9, .vsl N.length 1 (tF cSl W)), (11, vi (fstS N W 0).1), (12, vi (fstS N W 0).2), (13, vi ((0 : Nat) : Int))]) (k0_sel hk rfl) rfl .nil tmq)) ?_
      refine ploop (fun z st => ∃ i : Nat, i ≤ N.length ∧ z = N.length - i ∧ st = ⟨[(8, sV N), (9, .vsl N.length 1 (tF cSl W)), (11, vi (fstS N W i).1), (12, vi (fstS N W i).2), (13, vi i)], []⟩) N.length ⟨0, by omega, by omega, rfl⟩ ?_
      rintro _ _ ⟨i, hi, rfl, rfl⟩
      have hw1 : IntKind.i64.wrap ((i : Int) + 1) = ((i + 1 : Nat) : Int) := w64 (by omega) (by omega)
      repeat' (first | refine gg ?_ | exact trivial | with_reducible refine wA ?_ ?_ | refine Y2.mk ?_ ?_ | refine gh ?_ | exact qq | fail)
      refine pcond rfl ?_ ?_ <;> intro hc
      · have hc : i < N.length := by have := of_decide_eq_true hc; omega
        have cp := paths21_c N W (lF 0 N i) (by omega) hWl
        have hf : fstS N W (i + 1) = if 0 < cycD N W i ∧ ((fstS N W i).2 < 0 ∨ cycD N W i < (fstS N W i).1) then (cycD N W i, (i : Int)) else fstS N W i := rfl
        repeat' (first | refine gg ?_ | exact trivial | with_reducible refine wA ?_ ?_ | refine Y2.mk ?_ ?_ | (refine pop_callc [] rfl rfl rfl rfl rfl rfl (fun _ h => by cases h) (cp) (args_cl _ rfl) ?_; rintro _ rfl) | refine gh ?_ | exact qq | fail)
        refine pcond (b := decide (0 < cycD N W i ∧ ((fstS N W i).2 < 0 ∨ cycD N W i < (fstS N W i).1))) ?_ ?_ ?_
        · refine eqB ?_
          show (bif decide (0 < cycD N W i) then bif decide ((fstS N W i).2 < 0) then true else decide (cycD N W i < (fstS N W i).1) else false) = _
          by_cases e1 : 0 < cycD N W i <;> by_cases e2 : (fstS N W i).2 < 0 <;> by_cases e3 : cycD N W i < (fstS N W i).1 <;> simp [e1, e2, e3]
        · intro h1
          rw [if_pos (of_decide_eq_true h1)] at hf
          repeat' (first | refine gg ?_ | exact trivial | with_reducible refine wA ?_ ?_ | refine Y2.mk ?_ ?_ | refine gh ?_ | exact qq | fail)
          refine xdone ?_
          rw [hw1]
          exact kloop_next (st' := ⟨[(8, sV N), (9, .vsl N.length 1 (tF cSl W)), (11, vi (fstS N W (i + 1)).1), (12, vi (fstS N W (i + 1)).2), (13, vi ((i + 1 : Nat) : Int))], []⟩) (N.length - (i + 1)) (can_rowsv [] (k0_sel hk rfl) rfl .nil (by rw [hf]; exact ⟨PEq.refl _, PEq.refl _, PEq.refl _, PEq.refl _, PEq.refl _, trivial⟩)) (by omega) ⟨i + 1, by omega, rfl, rfl⟩
        · intro h1
          rw [if_neg (of_decide_eq_false h1)] at hf
          repeat' (first | refine gg ?_ | exact trivial | with_reducible refine wA ?_ ?_ | refine Y2.mk ?_ ?_ | refine gh ?_ | exact qq | fail)
          refine xdone ?_
          rw [hw1]
          exact kloop_next (st' := ⟨[(8, sV N), (9, .vsl N.length 1 (tF cSl W)), (11, vi (fstS N W (i + 1)).1), (12, vi (fstS N W (i + 1)).2), (13, vi ((i + 1 : Nat) : Int))], []⟩) (N.length - (i + 1)) (can_rowsv [] (k0_sel hk rfl) rfl .nil (by rw [hf]; exact ⟨PEq.refl _, PEq.refl _, PEq.refl _, PEq.refl _, PEq.refl _, trivial⟩)) (by omega) ⟨i + 1, by omega, rfl, rfl⟩
      · have hil : i = N.length := by have := of_decide_eq_false hc; omega
        subst hil
        unfold cyc21
        obtain ⟨f1, f2, f3, f4⟩ := fstS_in (N := N) (W := W) N.length
        generalize fstS N W N.length = F at *
        obtain ⟨best, first⟩ := F
        simp only at f1 f2 f3 f4
        repeat' (first | refine gg ?_ | exact trivial | with_reducible refine wA ?_ ?_ | refine Y2.mk ?_ ?_ | refine gh ?_ | exact qq | fail)
        refine pcond (b := decide (first < 0)) rfl ?_ ?_
        · intro h1
          have h1 := of_decide_eq_true h1
          rw [if_pos h1]
          repeat' (first | refine gg ?_ | exact trivial | with_reducible refine wA ?_ ?_ | refine Y2.mk ?_ ?_ | refine gh ?_ | exact qq | fail)
          refine xdone ?_
          exact kret [] rfl ⟨trivial, trivial⟩ (qs := [.vsl 0 1 (tI (lF 0 []))]) ⟨argNil, trivial⟩ rfl
        · intro h1
          have h1 := of_decide_eq_false h1
          rw [if_neg h1]
          obtain ⟨fi, rfl⟩ := Int.eq_ofNat_of_zero_le (by omega : 0 ≤ first)
          have hfi : fi < N.length := by omega
          have cp := paths21_c N W (lF 0 N fi) (by omega) hWl
          simp only [Int.toNat_natCast]
          generalize hd : pthG N W (lF 0 N fi) N.length = d at *
          repeat' (first | refine gg ?_ | exact trivial | with_reducible refine wA ?_ ?_ | refine Y2.mk ?_ ?_ | (refine pop_callc [] rfl rfl rfl rfl rfl rfl (fun _ h => by cases h) (cp) (args_cl _ rfl) ?_; rintro _ rfl) | refine gh ?_ | exact qq | fail)
          have hwb : IntKind.i64.wrap (best - 1) = best - 1 := w64 (by omega) (by omega)
          rw [hwb]
          refine pcan (st' := ⟨[(8, sV N), (9, .vsl N.length 1 (tF cSl W)), (15, .vsl N.length 1 (tI d)), (16, slP (0 + 1) 0), (17, vi fi), (18, vi (best - 1))], [vRow c1 1 (0 + 1) (lF 0 [lF 0 N fi])]⟩) (can_rowsv [0] (k0_sel hk rfl) rfl (.cons rfl (row1_eq rfl) .nil) tmq) ?_
          refine ploop (fun z st => ∃ (m : Int) (k at_ : Nat) (out : List Int), -1 ≤ m ∧ m ≤ N.length ∧ out.length = k + 1 ∧ k + m ≤ N.length ∧ at_ < N.length ∧ cycL N W d (best - 1).toNat fi [lF 0 N fi] = cycL N W d m.toNat at_ out ∧ z = m.toNat ∧ st = ⟨[(8, sV N), (9, .vsl N.length 1 (tF cSl W)), (15, .vsl N.length 1 (tI d)), (16, slP (k + 1) 0), (17, vi at_), (18, vi m)], [vRow c1 1 (k + 1) (lF 0 out)]⟩) (best - 1).toNat ⟨best - 1, 0, fi, _, by omega, by omega, rfl, by omega, hfi, rfl, rfl, rfl⟩ ?_
          clear hwb
          rintro _ _ ⟨m, k, at_, out, hm0, hm1, hok, hkm, hat, hcy, rfl, rfl⟩
          rw [hcy]
          have hwm : IntKind.i64.wrap (m - 1) = m - 1 := w64 (by omega) (by omega)
          repeat' (first | refine gg ?_ | exact trivial | with_reducible refine wA ?_ ?_ | refine Y2.mk ?_ ?_ | refine gh ?_ | exact qq | fail)
          refine pcond (b := decide (0 < m)) rfl ?_ ?_ <;> intro h2
          · have h2 := of_decide_eq_true h2
            obtain ⟨M, hM⟩ : ∃ M : Nat, m = ((M + 1 : Nat) : Int) := ⟨(m - 1).toNat, by omega⟩
            have hcl : cycL N W d m.toNat at_ out = cycL N W d M (nxtK N W d at_ m) (out ++ [lF 0 N (nxtK N W d at_ m)]) := by rw [hM]; rfl
            have hwn : IntKind.i64.wrap ((N.length : Int) - 1) = ((N.length - 1 : Nat) : Int) := by rw [w64 (by omega) (by omega)]; omega
            repeat' (first | refine gg ?_ | exact trivial | with_reducible refine wA ?_ ?_ | refine Y2.mk ?_ ?_ | refine gh ?_ | exact qq | fail)
            refine pcan (st' := ⟨[(8, sV N), (9, .vsl N.length 1 (tF cSl W)), (15, .vsl N.length 1 (tI d)), (16, slP (k + 1) 0), (17, vi at_), (18, vi m), (19, vi ((0 : Nat) : Int))], [vRow c1 1 (k + 1) (lF 0 out)]⟩) (can_rowsv [0] (k0_sel hk rfl) rfl (.cons rfl (RowEq.cl (v_cl c1_cl _ _ _)) .nil) tmq) ?_
            refine ploop (fun z st => ∃ q : Nat, q ≤ N.length - 1 ∧ (∀ j, j < q → nxtC N W d at_ m j = false) ∧ z = N.length - q ∧ st = ⟨[(8, sV N), (9, .vsl N.length 1 (tF cSl W)), (15, .vsl N.length 1 (tI d)), (16, slP (k + 1) 0), (17, vi at_), (18, vi m), (19, vi q)], [vRow c1 1 (k + 1) (lF 0 out)]⟩) N.length ⟨0, Nat.zero_le _, fun j hj => absurd hj (Nat.not_lt_zero j), rfl, rfl⟩ ?_
            rintro _ _ ⟨q, hq, hvq, rfl, rfl⟩
            have hwq : IntKind.i64.wrap ((q : Int) + 1) = ((q + 1 : Nat) : Int) := w64 (by omega) (by omega)
            have ch := has_c (W at_) (lF 0 N q) (hWl at_)
            repeat' (first | refine gg ?_ | exact trivial | with_reducible refine wA ?_ ?_ | refine Y2.mk ?_ ?_ | refine xs_start (id := 10) true [.take 0, .take 1, .take 2, .take 3, .take 4, .take 5, .take 6, .take 7, .one 8, .take 9, .take 10, .take 11, .take 12, .one 13] 0 rfl rfl (by kernel_rfl) ?_ | refine xs_start (id := 27) true [.take 0, .take 1, .take 2, .take 3, .take 4, .take 5, .take 6, .take 7, .take 8, .take 9, .take 10, .take 11, .take 12, .take 13, .one 14, .take 15, .take 16, .take 17, .take 18, .take 19, .take 20, .take 21, .take 22, .take 23, .take 24] 0 rfl rfl (by kernel_rfl) ?_ | (intro hh; exact ⟨hh, by omega, by omega⟩) | refine zz ch ?_ | refine gh ?_ | exact qq | fail)
            refine pcond (b := decide (q < N.length - 1) && !nxtC N W d at_ m q) ?_ ?_ ?_
            · refine eqB ?_
              rw [hwn]
              show (bif decide ((q : Int) < ((N.length - 1 : Nat) : Int)) then (bif !decide (lF 0 N q ∈ W at_) then true else d q != m) else false) = _
              unfold nxtC
              by_cases e1 : q < N.length - 1 <;> by_cases e2 : lF 0 N q ∈ W at_ <;> by_cases e3 : d q = m <;> simp [e1, e2, e3] <;> omega
            · intro h3
              rw [Bool.and_eq_true] at h3
              have h4 := of_decide_eq_true h3.1
              have h5 := nv_t h3.2
              repeat' (first | refine gg ?_ | exact trivial | with_reducible refine wA ?_ ?_ | refine Y2.mk ?_ ?_ | refine gh ?_ | exact qq | fail)
              refine xdone ?_
              rw [hwq]
              exact kloop_next (st' := ⟨[(8, sV N), (9, .vsl N.length 1 (tF cSl W)), (15, .vsl N.length 1 (tI d)), (16, slP (k + 1) 0), (17, vi at_), (18, vi m), (19, vi ((q + 1 : Nat) : Int))], [vRow c1 1 (k + 1) (lF 0 out)]⟩) (N.length - (q + 1)) (can_rowsv [0] (k0_sel hk rfl) rfl (.cons rfl (RowEq.cl (v_cl c1_cl _ _ _)) .nil) tmq) (by omega) ⟨q + 1, by omega, fun j hj => by
                by_cases e : j = q
                · subst e; exact h5
                · exact hvq j (by omega), rfl, rfl⟩
            · intro h3
              have hq2 : nxtK N W d at_ m = q := by
                unfold nxtK
                rw [Bool.and_eq_false_iff] at h3
                by_cases e : q < N.length - 1
                · have h5 : nxtC N W d at_ m q = true := nv_f (h3.resolve_left (by rw [decide_eq_true e]; decide))
                  rw [find_rng e hvq h5]; rfl
                · have e : q = N.length - 1 := by omega
                  subst e
                  rw [find_rno hvq]; rfl
              rw [hcl, hq2]
              repeat' (first | refine gg ?_ | exact trivial | with_reducible refine wA ?_ ?_ | refine Y2.mk ?_ ?_ | exact ⟨Nat.le_refl _, (by rw [hk]; exact Nat.le_of_ble_eq_true rfl), Nat.le_of_eq (Nat.zero_add _), (show (_ : Nat) * 8 ≤ 140737488355328 from by omega), (show (_ : Nat) ≤ 9223372036854775807 from by omega)⟩ | (exact (show (_ : Nat) < _ by omega)) | (exact ⟨by omega, by omega⟩) | refine gh ?_ | exact qq | fail)
              refine xdone ?_
              rw [hwm]
              exact kloop_next (st' := ⟨[(8, sV N), (9, .vsl N.length 1 (tF cSl W)), (15, .vsl N.length 1 (tI d)), (16, slP (k + 1 + 1) 0), (17, vi q), (18, vi (m - 1))], [vRow c1 1 (k + 1 + 1) (lF 0 (out ++ [lF 0 N q]))]⟩) (m - 1).toNat (can_rowsv [2] (k0_sel hk rfl) rfl (.cons rfl (app_l c1_cl hok rfl rfl) .nil) tmq) (by omega) ⟨m - 1, k + 1, q, _, by omega, by omega, by rw [List.length_append, hok]; rfl, by omega, by omega, by rw [show (m - 1).toNat = M by omega], rfl, rfl⟩
          · have h2 := of_decide_eq_false h2
            rw [show m.toNat = 0 by omega]
            repeat' (first | refine gg ?_ | exact trivial | with_reducible refine wA ?_ ?_ | refine Y2.mk ?_ ?_ | refine gh ?_ | exact qq | fail)
            refine xdone ?_
            refine kret [0] rfl ⟨trivial, trivial⟩ (qs := [.vsl (k + 1) 1 (tI (lF 0 out))]) ⟨argTI (arg_v (n := k + 1) (l := 0) c1_cl rfl (List.Mem.head _)), trivial⟩ ?_
            rw [show cycL N W d 0 at_ out = out from rfl, show sV out = .vsl (k + 1) 1 (tI (lF 0 out)) from by show PV.vsl _ _ _ = _; rw [hok]]; rfl
  · rw [if_neg h11]
    refine pure_of (G := G.toPg) (fn := Tryz.f33) Tryz.func33 rfl rfl rfl ?_; intro Γ hk
    repeat' (first | refine gg ?_ | exact trivial | with_reducible refine wA ?_ ?_ | refine Y2.mk ?_ ?_ | (refine pop_callc [] rfl rfl rfl rfl rfl rfl (fun _ h => by cases h) (cO) (args_cl _ rfl) ?_; rintro _ rfl) | refine gh ?_ | exact qq | fail)
    refine pcond (b := true) ?_ ?_ ?_
    · refine eqB ?_
      simpa using h11
    · intro h5
      repeat' (first | refine gg ?_ | exact trivial | with_reducible refine wA ?_ ?_ | refine Y2.mk ?_ ?_ | refine gh ?_ | exact qq | fail)
      refine xdone ?_
      exact kret [] rfl ⟨trivial, trivial⟩ (qs := [.vsl 0 1 (tI (lF 0 []))]) ⟨argNil, trivial⟩ rfl
    · intro h5; cases h5
end Go.Proofs.YtcefhgomkehokaaGreat
namespace Go.Proofs.YtcefhgomkehokaaGreat
structure EnOk (E : List En) (key : Int) : Prop where
  asc : E.Pairwise (fun a b => a.1 < b.1)
  all : ∀ e, e ∈ E → 0 ≤ e.1 ∧ e.1 < key ∧ e.2 ∈ decL
theorem EnOk.snoc {E : List En} {key : Int} (h : EnOk E key) (h0 : 0 ≤ key) {x : Int × Int} (hx : x ∈ decL) {k' : Int} (hk : key < k') : EnOk (E ++ [(key, x)]) k' := by
  refine ⟨List.pairwise_append.2 ⟨h.asc, by simp, fun a ha b hb => ?_⟩, fun e he => ?_⟩
  · obtain rfl : b = (key, x) := by simpa using hb
    exact (h.all a ha).2.1
  · rcases List.mem_append.1 he with he | he
    · have := h.all e he; exact ⟨this.1, by omega, this.2.2⟩
    · obtain rfl : e = (key, x) := by simpa using he
      exact ⟨h0, hk, hx⟩
structure ScOk (nm : ByteArray) (t : Ty) (day : Int) (d : Df) : Prop where
  eq : d = ⟨2, nm, t, day, d.ne, d.ef, .nil, 0, 0, 0⟩
  en : entsS d.ne d.ef = true
  ef : ∀ i, i < d.ne → -9223372036854775808 ≤ (d.ef i).2.1 ∧ (d.ef i).2.1 ≤ 9223372036854775807
  ne : d.ne ≤ 64
  dl : ∀ i, i < d.ne → (d.ef i).2 ∈ decL ∧ -1000000000000 ≤ (d.ef i).1 ∧ (d.ef i).1 ≤ 1000000000000
end Go.Proofs.YtcefhgomkehokaaGreat
namespace Go.Proofs.YtcefhgomkehokaaGreat
theorem take_snoc {α : Type} {d : α} {l : List α} {n : Nat} (h : n < l.length) : l.take (n + 1) = l.take n ++ [lF d l n] := by
  rw [List.take_succ_eq_append_getElem h]
  unfold lF; rw [List.getD_eq_getElem?_getD, List.getElem?_eq_getElem h]; rfl
abbrev cSt (x : ByteArray) : List PV := [vs x]
theorem cSt_cl : CellsCl cSt := fun _ => ⟨trivial, trivial⟩
theorem pcutx {G : Pg} {N : Nat} {Γ : Fr} {st : PSt} {K : Exit → PSt → Prop} {x y : Code} {id : Nat} (M : PSt → Prop) (h : PWp G N Γ x st (Kblock id (Kcut N Γ M K))) (hy : ∀ st, M st → PWp G N Γ y st K) : PWp G N Γ x st (Kblock id (Kseq G N Γ y K)) := .mk fun ρ I a w hr =>
  wp_mono (h.go ρ I a w hr) fun e a w ⟨h1, st, ρ, I, h2, h3⟩ => by
    have nrm : Kcut N Γ M K .normal st → ∃ st ρ I, Kseq G N Γ y K .normal st ∧ Rel N Γ st ρ I a w := fun hc => by
      obtain ⟨st', hc, hm⟩ := hc.go
      obtain ⟨ρ', I', hr'⟩ := hc ρ I a w h3
      exact ⟨st', ρ', I', kseq_normal (hy st' hm), hr'⟩
    have h2 := h2.go
    cases e with
    | normal =>
      obtain ⟨st', ρ', I', h4, h5⟩ := nrm h2
      exact ⟨h1, st', ρ', I', ⟨h4⟩, h5⟩
    | exit i =>
      have h2 : (bif Nat.beq i id then Kcut N Γ M K .normal st else Kcut N Γ M K (.exit i) st) := h2
      cases hb : Nat.beq i id
      · rw [hb] at h2
        exact ⟨h1, st, ρ, I, ⟨show (bif Nat.beq i id then _ else _ : Prop) from by rw [hb]; exact ⟨h2.go⟩⟩, h3⟩
      · rw [hb] at h2
        obtain ⟨st', ρ', I', h4, h5⟩ := nrm h2
        exact ⟨h1, st', ρ', I', ⟨show (bif Nat.beq i id then _ else _ : Prop) from by rw [hb]; exact h4⟩, h5⟩
    | _ => exact ⟨h1, st, ρ, I, ⟨⟨h2.go⟩⟩, h3⟩
section
variable {G : Pg2} {N : Nat} {Γ : Fr} {K : Exit → PSt → Prop} {ops : Array Oper} {H : List Nat} {ni fin : Bool} {m : Nat} {ls : Array Bool} {st : PSt} {o : Oper}
def lsF (L : List Nat) (n : Nat) : Array Bool := ((List.range n).map fun i => L.any (Nat.beq i)).toArray
inductive BrAll (G : Pg2) (N : Nat) (Γ : Fr) (ops : Array Oper) (H : List Nat) (ni : Bool) (L : List Nat) (n : Nat) (st : PSt) (K : Exit → PSt → Prop) : List (Nat × Sched × Bool × Nat) → Prop where
  | nil : BrAll G N Γ ops H ni L n st K []
  | cons {i : Nat} {sch : Sched} {fin : Bool} {m' : Nat} {T : List (Nat × Sched × Bool × Nat)} (h : ∃ o ch nk, opAt ops.toList i = some o ∧ chB H ch = true ∧ PStep G N Γ ops o st ch nk (fun st' => PS G N Γ ops H (ni && nk) fin sch m' (lsF (i :: L) n) st' K)) (ht : BrAll G N Γ ops H ni L n st K T) : BrAll G N Γ ops H ni L n st K ((i, sch, fin, m') :: T)
theorem BrAll.at {n : Nat} {L : List Nat} {T : List (Nat × Sched × Bool × Nat)} (h : BrAll G N Γ ops H ni L n st K T) : ∀ i, i ∈ T.map Prod.fst → ∃ x, x ∈ T ∧ x.1 = i ∧ ∃ o ch nk, opAt ops.toList i = some o ∧ chB H ch = true ∧ PStep G N Γ ops o st ch nk (fun st' => PS G N Γ ops H (ni && nk) x.2.2.1 x.2.1 x.2.2.2 (lsF (i :: L) n) st' K) := by
  induction h with
  | nil => intro i hi; cases hi
  | cons h ht ih =>
    intro i hi
    rw [List.map_cons, List.mem_cons] at hi
    rcases hi with rfl | hi
    · exact ⟨_, List.mem_cons_self .., rfl, h⟩
    · obtain ⟨x, h1, h2, h3⟩ := ih i hi
      exact ⟨x, List.mem_cons_of_mem _ h1, h2, h3⟩
end
end Go.Proofs.YtcefhgomkehokaaGreat
namespace Go.Proofs.YtcefhgomkehokaaGreat
structure PrdE (F : FuncId) (c : Nat → PV) (p : Ex → Bool) : Prop where
  c0 : Cl (c 0)
  run : ∀ x, PureC G.P F [vX x, c 0] (fun r => r = vb (p x))
theorem PrdE.cl {F : FuncId} {c : Nat → PV} {p : Ex → Bool} (h : PrdE F c p) : Cl (.clo F 1 c) := fun i hi => by
  obtain rfl : i = 0 := by omega
  exact h.c0
theorem PrdE.eq {F : FuncId} {c : Nat → PV} {p : Ex → Bool} (h : PrdE F c p) {τ : Nat → Option Nat} : PEq ((PV.clo F 1 c).ren τ) (.clo F 1 c) := PEq.cl _ h.cl
theorem indexFuncE_c (n : Nat) (g : Nat → Ex) (F : FuncId) (c : Nat → PV) (p : Ex → Bool) (hF : PrdE F c p) (hn : n ≤ 1000000000) :
    PureC G.P 91 [.vsl n 10 (tF cX g), .clo F 1 c] (fun r => ∃ i : Nat, i ≤ n ∧ (∀ j, j < i → p (g j) = false) ∧ ((i < n ∧ p (g i) = true ∧ r = vi i) ∨ (i = n ∧ r = vi (-1)))) := by
  refine pure_of (G := G.toPg) (fn := Tryz.f91) Tryz.func91 rfl rfl rfl ?_; intro Γ hk
  repeat' (first | refine gg ?_ | exact trivial | with_reducible refine wA ?_ ?_ | refine Y2.mk ?_ ?_ | refine gh ?_ | exact qq | fail)
  refine pcan (st' := ⟨[(0, .vsl n 10 (tF cX g)), (1, .clo F 1 c), (7, vi n), (8, vi ((0 : Nat) : Int))], []⟩) (can_rowsv [] (k0_sel hk rfl) rfl .nil (by exact ⟨PEq.refl _, hF.eq, PEq.refl _, PEq.refl _, trivial⟩)) ?_
  refine ploop (fun q st => ∃ i : Nat, i ≤ n ∧ (∀ j, j < i → p (g j) = false) ∧ q = n - i ∧ st = ⟨[(0, .vsl n 10 (tF cX g)), (1, .clo F 1 c), (7, vi n), (8, vi i)], []⟩) n ⟨0, by omega, fun j hj => by omega, rfl, rfl⟩ ?_
  rintro _ _ ⟨i, hi, hv, rfl, rfl⟩
  repeat' (first | refine gg ?_ | exact trivial | with_reducible refine wA ?_ ?_ | refine Y2.mk ?_ ?_ | refine gh ?_ | exact qq | fail)
  refine pcond rfl ?_ ?_ <;> intro hc <;> simp at hc
  · repeat' (first | refine gg ?_ | exact trivial | with_reducible refine wA ?_ ?_ | refine Y2.mk ?_ ?_ | refine gh ?_ | exact qq | fail)
    refine pop_rowsc [] rfl rfl rfl rfl rfl rfl .nil (pure_rows (hF.run (g i))) (by exact ⟨PEq.cl _ (fun i _ => clL_nth _ i (cX_cl _)), PEq.cl _ hF.c0, trivial⟩) ?_
    rintro _ _ ⟨rfl, rfl⟩
    refine ⟨_, _, rfl, trivial, rfl, ?_⟩
    cases hp : p (g i) with
    | true =>
      repeat' (first | refine gg ?_ | exact trivial | with_reducible refine wA ?_ ?_ | refine Y2.mk ?_ ?_ | refine gh ?_ | exact qq | fail)
      exact kret [] rfl ⟨trivial, trivial⟩ (qs := [vi i]) ⟨argVal, trivial⟩ ⟨i, by omega, hv, .inl ⟨hc, hp, rfl⟩⟩
    | false =>
      repeat' (first | refine gg ?_ | exact trivial | with_reducible refine wA ?_ ?_ | refine Y2.mk ?_ ?_ | refine gh ?_ | exact qq | fail)
      rw [show IntKind.i64.wrap ((i : Int) + 1) = ((i + 1 : Nat) : Int) from w64 (by omega) (by omega)]
      exact kloop_next (st' := ⟨[(0, .vsl n 10 (tF cX g)), (1, .clo F 1 c), (7, vi n), (8, vi ((i + 1 : Nat) : Int))], []⟩) (n - (i + 1)) (can_rowsv [] (k0_sel hk rfl) rfl .nil (by exact ⟨PEq.refl _, hF.eq, PEq.refl _, PEq.refl _, trivial⟩)) (by omega) ⟨i + 1, by omega, fun j hj => by
        by_cases e : j = i
        · subst e; exact hp
        · exact hv j (by omega), rfl, rfl⟩
  · have hin : i = n := by omega
    subst hin
    repeat' (first | refine gg ?_ | exact trivial | with_reducible refine wA ?_ ?_ | refine Y2.mk ?_ ?_ | refine gh ?_ | exact qq | fail)
    exact kret [] rfl ⟨trivial, trivial⟩ (qs := [vi (-1)]) ⟨argVal, trivial⟩ ⟨i, by omega, hv, .inr ⟨rfl, rfl⟩⟩
theorem lF_getX {l : List Ex} {i : Nat} (h : i < l.length) : lF Ex.nil l i = l[i] := by
  unfold lF; rw [List.getD_eq_getElem?_getD, List.getElem?_eq_getElem h]; rfl
theorem containsFuncE_c (L : List Ex) (F : FuncId) (c : Nat → PV) (p : Ex → Bool) (hF : PrdE F c p) (hn : L.length ≤ 1000000000) : PureC G.P 76 [.vsl L.length 10 (tF cX (lF .nil L)), .clo F 1 c] (fun r => r = vb (L.any p)) := by
  have c1 := indexFuncE_c L.length (lF .nil L) F c p hF hn
  refine pure_of (G := G.toPg) (fn := Tryz.f76) Tryz.func76 rfl rfl rfl ?_; intro Γ hk
  repeat' (first | refine gg ?_ | exact trivial | with_reducible refine wA ?_ ?_ | refine Y2.mk ?_ ?_ | refine gh ?_ | exact qq | fail)
  refine pop_call [] rfl rfl rfl rfl rfl c1 ⟨argVsl, argCl hF.cl, trivial⟩ ?_
  rintro _ ⟨i, hi, hv, ⟨hin, hp, rfl⟩ | ⟨rfl, rfl⟩⟩
  · refine ⟨trivial, ?_⟩
    repeat' (first | refine gg ?_ | exact trivial | with_reducible refine wA ?_ ?_ | refine Y2.mk ?_ ?_ | refine gh ?_ | exact qq | fail)
    refine kretv rfl ⟨trivial, trivial⟩ rfl (eqB ?_)
    have : L.any p = true := by
      rw [lF_getX hin] at hp
      exact List.any_eq_true.2 ⟨_, List.getElem_mem hin, hp⟩
    rw [this]; simp
  · refine ⟨trivial, ?_⟩
    repeat' (first | refine gg ?_ | exact trivial | with_reducible refine wA ?_ ?_ | refine Y2.mk ?_ ?_ | refine gh ?_ | exact qq | fail)
    refine kretv rfl ⟨trivial, trivial⟩ rfl (eqB ?_)
    have : L.any p = false := by
      rw [List.any_eq_false]
      intro x hx
      obtain ⟨j, hj, rfl⟩ := List.getElem_of_mem hx
      have := hv j hj
      rw [lF_getX hj] at this
      simp [this]
    rw [this]; rfl
/-! ### mentions -/
def mentB (s : ByteArray) (r : Ex) : Bool := r.nm.toList == s.toList
def mentS (e : Ex) (s : ByteArray) : Bool := (refsE e).any (mentB s)
theorem named_p (s : ByteArray) : PrdE 77 (nthP [.vptr 1 1 (fun _ _ => vs s) 0 0]) (mentB s) := ⟨trivial, fun x => by
  refine pure_of (G := G.toPg) (fn := Tryz.f77) Tryz.func77 rfl rfl rfl ?_; intro Γ hk
  repeat' (first | refine gg ?_ | exact trivial | with_reducible refine wA ?_ ?_ | refine Y2.mk ?_ ?_ | refine gh ?_ | exact qq | fail)
  exact kretv rfl ⟨trivial, trivial⟩ rfl rfl⟩
theorem mentions_c (e : Ex) (s : ByteArray) (hv : validS 32 e = true) (hw : e.w ≤ 900000) : PureC G.P 56 [vX e, vs s] (fun r => r = vb (mentS e s)) := by
  have rc := (refs_c 32 e hv hw).nil
  have rl := refs_len e
  have hX : mentS e s = (refsE e).any (mentB s) := rfl
  rw [hX]
  refine pure_of (G := G.toPg) (fn := Tryz.f56) Tryz.func56 rfl rfl rfl ?_; intro Γ hk
  repeat' (first | refine gg ?_ | exact trivial | with_reducible refine wA ?_ ?_ | refine Y2.mk ?_ ?_ | refine gh ?_ | exact qq | fail)
  generalize hR : refsE e = R at *
  have cc := containsFuncE_c R _ _ _ (named_p s) (by omega)
  refine pop_rowsc [] rfl rfl rfl rfl rfl rfl .nil rc (by exact ⟨PEq.refl _, PEq.cl _ (fun i _ => clL_nth _ i (cX_cl _)), trivial⟩) ?_
  rintro r rows ⟨k, hk2, rfl, rfl⟩
  subst hk2
  cases R with
  | nil =>
    refine ⟨_, _, rfl, ⟨v_cl cX_cl _ _ _, trivial⟩, rfl, ?_⟩
    repeat' (first | refine gg ?_ | exact trivial | with_reducible refine wA ?_ ?_ | refine Y2.mk ?_ ?_ | refine gh ?_ | exact qq | fail)
    refine pop_callM [1, 2] [] rfl rfl rfl rfl rfl cc (by exact ⟨argM (arg_v (n := 0) (l := 2) cX_cl rfl (List.Mem.tail _ (List.Mem.head _))), argM_clo (fun i hi => by
      have hi : i < 1 := hi
      obtain rfl : i = 0 := by omega
      exact argM_ptr (l := 1) rfl trivial (List.Mem.head _) (Nat.le_refl _) rfl (fun a ha b hb => by
        obtain rfl : b = 0 := by omega
        exact argM (argCl trivial))), trivial⟩) ?_
    rintro _ rfl
    refine ⟨trivial, ?_⟩
    repeat' (first | refine gg ?_ | exact trivial | with_reducible refine wA ?_ ?_ | refine Y2.mk ?_ ?_ | refine gh ?_ | exact qq | fail)
    exact kretv rfl ⟨trivial, trivial⟩ rfl rfl
  | cons a R =>
    refine ⟨_, _, rfl, ⟨v_cl cX_cl _ _ _, trivial⟩, rfl, ?_⟩
    repeat' (first | refine gg ?_ | exact trivial | with_reducible refine wA ?_ ?_ | refine Y2.mk ?_ ?_ | refine gh ?_ | exact qq | fail)
    refine pop_callM [1, 2] [] rfl rfl rfl rfl rfl cc (by exact ⟨argM (arg_v (n := (R.length + 1)) (l := 2) cX_cl rfl (List.Mem.tail _ (List.Mem.head _))), argM_clo (fun i hi => by
      have hi : i < 1 := hi
      obtain rfl : i = 0 := by omega
      exact argM_ptr (l := 1) rfl trivial (List.Mem.head _) (Nat.le_refl _) rfl (fun a ha b hb => by
        obtain rfl : b = 0 := by omega
        exact argM (argCl trivial))), trivial⟩) ?_
    rintro _ rfl
    refine ⟨trivial, ?_⟩
    repeat' (first | refine gg ?_ | exact trivial | with_reducible refine wA ?_ ?_ | refine Y2.mk ?_ ?_ | refine gh ?_ | exact qq | fail)
    exact kretv rfl ⟨trivial, trivial⟩ rfl rfl
end Go.Proofs.YtcefhgomkehokaaGreat
namespace Go.Proofs.YtcefhgomkehokaaGreat
theorem deleteFunc1_r (n : Nat) (D : List Int) (hD : D.length = n) (F : FuncId) (c : Nat → PV) (p : Int → Bool) (hF : PrdC1 F c p) (hn : n ≤ 1000000000) :
    RowsC G.P 57 [iRow n (lF 0 D)] [.lsl 0 0 n, .clo F 1 c] (fun r rows => r = .lsl 0 0 (D.filter fun x => !p x).length ∧ rows = [iRow (D.filter fun x => !p x).length (lF 0 (D.filter fun x => !p x))]) := by
  have c1 := indexFunc1_c n (lF 0 D) F c p hF hn
  refine rows_of (G := G.toPg) (fn := Tryz.f57) Tryz.func57 rfl rfl rfl ?_; intro Γ hk
  repeat' (first | refine gg ?_ | exact trivial | with_reducible refine wA ?_ ?_ | refine Y2.mk ?_ ?_ | refine gh ?_ | exact qq | fail)
  refine pop_call [0] rfl rfl rfl rfl rfl c1 ⟨argLsl (r := iRow n (lF 0 D)) rfl trivial (List.Mem.head _) (by show 0 + n ≤ n; omega) (fun a ha b hb => ⟨by rw [Nat.zero_add]; rfl, trivial⟩), argCl hF.cl, trivial⟩ ?_
  rintro _ ⟨i, hi, hv, ⟨hin, hp, rfl⟩ | ⟨rfl, rfl⟩⟩
  · refine ⟨trivial, ?_⟩
    have hfi : ∀ j, j ≤ i → (D.take j).filter (fun x => !p x) = D.take j := fun j hj => by
      rw [List.filter_eq_self]
      intro x hx
      obtain ⟨q, hq, rfl⟩ := List.getElem_of_mem hx
      have hq2 : q < j := by simp at hq; omega
      have := hv q (by omega)
      rw [lF_get' (by omega)] at this
      rw [List.getElem_take]
      simp [this]
    have hf1 : (D.take (i + 1)).filter (fun x => !p x) = D.take i := by
      rw [filt_step (by omega), hfi i (Nat.le_refl _), if_neg (by simp [hp])]; simp
    have hw0 : IntKind.i64.wrap ((i : Int) + 1) = ((i + 1 : Nat) : Int) := w64 (by omega) (by omega)
    repeat' (first | refine gg ?_ | exact trivial | with_reducible refine wA ?_ ?_ | refine Y2.mk ?_ ?_ | refine gh ?_ | exact qq | fail)
    rw [hw0]
    refine pcan (st' := ⟨[(0, .lsl 0 0 n), (1, .clo F 1 c), (5, vi i), (6, vi ((i + 1 : Nat) : Int))], [iRow n (lF 0 D)]⟩) (can_rowsv [0] (k0_sel hk rfl) rfl (.cons rfl rqq .nil) (by exact ⟨PEq.refl _, hF.eq, PEq.refl _, PEq.refl _, trivial⟩)) ?_
    refine ploop (fun q st => ∃ (j k : Nat) (f : Nat → Int), j ≤ n ∧ k < j ∧ k = ((D.take j).filter fun x => !p x).length ∧ (∀ a, a < k → f a = lF 0 ((D.take j).filter fun x => !p x) a) ∧ (∀ a, j ≤ a → f a = lF 0 D a) ∧ q = n - j ∧ st = ⟨[(0, .lsl 0 0 n), (1, .clo F 1 c), (5, vi k), (6, vi j)], [iRow n f]⟩) (n - (i + 1)) ⟨i + 1, i, lF 0 D, by omega, by omega, by rw [hf1]; simp; omega, fun a ha => by rw [hf1]; rw [lF_get' (by omega), lF_get' (by simp; omega), List.getElem_take], fun a ha => rfl, rfl, rfl⟩ ?_
    rintro _ _ ⟨j, k, f, hj, hkj, hkl, hf, hg, rfl, rfl⟩
    repeat' (first | refine gg ?_ | exact trivial | with_reducible refine wA ?_ ?_ | refine Y2.mk ?_ ?_ | refine gh ?_ | exact qq | fail)
    refine pcond rfl ?_ ?_ <;> intro hc <;> simp at hc
    · have hw1 : IntKind.i64.wrap ((j : Int) + 1) = ((j + 1 : Nat) : Int) := w64 (by omega) (by omega)
      have hw2 : IntKind.i64.wrap ((k : Int) + 1) = ((k + 1 : Nat) : Int) := w64 (by omega) (by omega)
      have hst := filt_step (D := D) (q := fun x => !p x) (j := j) (by omega)
      repeat' (first | refine gg ?_ | exact trivial | with_reducible refine wA ?_ ?_ | refine Y2.mk ?_ ?_ | refine gh ?_ | exact qq | fail)
      refine pop_rowsc [] rfl rfl rfl rfl rfl rfl .nil (pure_rows (hF.run (lF 0 D j))) (by exact ⟨PEq.of (by show vi (f (0 + (j : Int).toNat)) = _; rw [show 0 + (j : Int).toNat = j by omega, hg j (Nat.le_refl _)]), PEq.cl _ hF.c0, trivial⟩) ?_
      rintro _ _ ⟨rfl, rfl⟩
      refine ⟨_, _, rfl, trivial, rfl, ?_⟩
      cases hpj : p (lF 0 D j) with
      | true =>
        rw [if_neg (by simp [hpj]), List.append_nil] at hst
        repeat' (first | refine gg ?_ | exact trivial | with_reducible refine wA ?_ ?_ | refine Y2.mk ?_ ?_ | refine gh ?_ | exact qq | fail)
        rw [hw1]
        exact kloop_next (st' := ⟨[(0, .lsl 0 0 n), (1, .clo F 1 c), (5, vi k), (6, vi ((j + 1 : Nat) : Int))], [iRow n f]⟩) (n - (j + 1)) (can_rowsv [0] (k0_sel hk rfl) rfl (.cons rfl rqq .nil) (by exact ⟨PEq.refl _, hF.eq, PEq.refl _, PEq.refl _, trivial⟩)) (by omega) ⟨j + 1, k, f, by omega, by omega, by rw [hst]; exact hkl, by rw [hst]; exact hf, fun a ha => hg a (by omega), rfl, rfl⟩
      | false =>
        rw [if_pos (by simp [hpj])] at hst
        have hlen : ((D.take (j + 1)).filter fun x => !p x).length = k + 1 := by rw [hst, List.length_append, ← hkl]; rfl
        repeat' (first | refine gg ?_ | exact trivial | with_reducible refine wA ?_ ?_ | refine Y2.mk ?_ ?_ | refine gh ?_ | exact qq | fail)
        rw [hw1, hw2]
        have hg2 : ∀ a, k < a → (upd f k (f j)) a = f a := fun a ha => if_neg (by omega)
        have hg3 : (upd f k (f j)) k = lF 0 D j := by unfold upd; rw [if_pos rfl, hg j (Nat.le_refl _)]
        have hg4 : ∀ a, a < k → (upd f k (f j)) a = f a := fun a ha => if_neg (by omega)
        refine kloop_next (st' := ⟨[(0, .lsl 0 0 n), (1, .clo F 1 c), (5, vi ((k + 1 : Nat) : Int)), (6, vi ((j + 1 : Nat) : Int))], [iRow n (upd f k (f j))]⟩) (n - (j + 1)) (can_rowsv [0] (k0_sel hk rfl) rfl (.cons rfl (i_eq (Nat.le_refl _) fun a ha => ?_) .nil) (by exact ⟨PEq.refl _, hF.eq, PEq.refl _, PEq.refl _, trivial⟩)) (by omega) ⟨j + 1, k + 1, _, by omega, by omega, hlen.symm, fun a ha => ?_, fun a ha => by rw [hg2 a (by omega)]; exact hg a (by omega), rfl, rfl⟩
        · show updR (tI f) (0 + (k : Int).toNat) [vi (f (0 + (j : Int).toNat))] a 0 = _
          rw [show 0 + (k : Int).toNat = k by omega, show 0 + (j : Int).toNat = j by omega]
          exact upd_eq f k (f j) a 0 rfl
        · by_cases e : a = k
          · subst e
            rw [hg3, hst]
            have := lF_at (d := 0) (y := lF 0 D j) (l := (D.take j).filter fun x => !p x) (r := [])
            rw [← hkl] at this; exact this.symm
          · rw [hg4 a (by omega), hf a (by omega), hst, lF_lt (by omega)]
    · have hjn : j = n := by omega
      subst hjn
      have hT : D.take j = D := by rw [← hD]; simp
      rw [hT] at hkl hf
      rw [← hkl]
      repeat' (first | refine gg ?_ | exact trivial | with_reducible refine wA ?_ ?_ | refine Y2.mk ?_ ?_ | refine gh ?_ | exact qq | fail)
      show POps _ _ _ _ (_ :: _) _ _
      refine pop_clear (G := G.toPg) hu_int hz_int rfl rfl rfl rfl rfl rfl rfl rfl ?_
      repeat' (first | refine gg ?_ | exact trivial | with_reducible refine wA ?_ ?_ | refine Y2.mk ?_ ?_ | refine gh ?_ | exact qq | fail)
      · exact ⟨trivial, trivial, by omega, by omega, by omega⟩
      refine xdone ?_
      refine kretr (st' := ⟨[(4, .lsl 0 0 k)], [iRow k (lF 0 (D.filter fun x => !p x))]⟩) (can_rowsv [0] (k0_sel hk rfl) rfl (.cons rfl (i_eq (by show k ≤ j; omega) fun a ha => ?_) .nil) (by exact ⟨PEq.of (by show PV.lsl 0 0 _ = _; congr 1), trivial⟩)) rfl ⟨trivial, trivial⟩ rfl ⟨rfl, rfl⟩
      show clrF _ _ (tI f) a 0 = _
      unfold clrF
      rw [if_neg (by omega)]
      · show vi (f a) = _
        rw [hf a ha]
      · exact ⟨trivial, trivial, by omega, by omega, by omega⟩
  · refine ⟨trivial, ?_⟩
    have hM : (D.filter fun x => !p x) = D := by
      rw [List.filter_eq_self]
      intro x hx
      obtain ⟨j, hj, rfl⟩ := List.getElem_of_mem hx
      have := hv j (by omega)
      rw [lF_get' hj] at this
      simp [this]
    rw [hM, hD]
    repeat' (first | refine gg ?_ | exact trivial | with_reducible refine wA ?_ ?_ | refine Y2.mk ?_ ?_ | refine gh ?_ | exact qq | fail)
    refine xdone ?_
    exact kretr (st' := ⟨[(4, .lsl 0 0 i)], [iRow i (lF 0 D)]⟩) (can_rowsv [0] (k0_sel hk rfl) rfl (by (repeat (refine SelV.cons rfl rqq ?_)); exact SelV.nil) tmq) rfl ⟨trivial, trivial⟩ rfl ⟨rfl, rfl⟩
end Go.Proofs.YtcefhgomkehokaaGreat
namespace Go.Proofs.YtcefhgomkehokaaGreat
theorem rows_drop {P : Program} {f : FuncId} {rows : List Row} {args : List PV} {post post' : PV → List Row → Prop} (h : RowsC P f rows args post) (hp : ∀ r rows', post r rows' → ∃ n, rows.length ≤ n ∧ n ≤ rows'.length ∧ post' r (rows'.take n) ∧ (∀ x r0, x < n → rows'[x]? = some r0 → r0.s ≠ .mp ∧ rowCl r0) ∧ ∀ ρ I w v, VRel rows'.length ρ I w r v → VRel n ρ I w r v) : RowsC P f rows args post' :=
  ⟨h.1, fun ρ A w vs hm hG hl hv => (h.2 ρ A w vs hm hG hl hv).mono fun e w' ⟨v, r, rows', ρ', I', he, hpost, hex, hfr, hrv⟩ => by
    obtain ⟨n, h1, h2, h3, h4, h5⟩ := hp r rows' hpost
    have get : ∀ {x : Nat} {r0 : Row}, (rows'.take n)[x]? = some r0 → x < n ∧ rows'[x]? = some r0 := fun {x r0} hx => by
      rw [List.getElem?_take] at hx
      split at hx
      · exact ⟨by assumption, hx⟩
      · cases hx
    have hlen : (rows'.take n).length = n := by rw [List.length_take]; omega
    refine ⟨v, r, rows'.take n, ρ', I', he, h3, fun x r0 hx hx2 hs => hex x r0 hx (get hx2).2 hs, ⟨⟨fun x r0 hx hs => ?_, fun x y r0 r1 hne hx hy => hfr.m.apart x y r0 r1 hne (get hx).2 (get hy).2, fun x r0 hx => hfr.m.mine x r0 (get hx).2, fun x r0 hx => hfr.m.imm x r0 (get hx).2, hfr.m.lt, fun x r0 hx hs => absurd hs (h4 x r0 (get hx).1 (get hx).2).1, fun x y r0 r1 hne hx hy hs => absurd hs (h4 x r0 (get hx).1 (get hx).2).1⟩, hfr.os, hfr.tape, hfr.output, hfr.size, hfr.block, hfr.shape, hfr.old, hfr.new, fun x r0 hx => hfr.own x r0 (get hx).2, fun x r0 hx => hfr.fresh x r0 (get hx).2, by rw [hlen]; exact h1, hfr.ρ0, fun x r0 hx hs => absurd hs (h4 x r0 (get hx).1 (get hx).2).1, hfr.gl⟩, by rw [hlen]; exact h5 _ _ _ _ hrv⟩
    obtain ⟨g1, cs, T, g2, g3⟩ := hfr.m.row x r0 (get hx).2 hs
    exact ⟨g1, cs, T, g2, fun i hi j hj => by obtain ⟨u, k1, k2, k3⟩ := g3 i hi j hj; exact ⟨u, k1, k2, VRel.close _ _ _ _ ((h4 x r0 (get hx).1 (get hx).2).2 i hi j hj) k3⟩⟩⟩
theorem gr_rel {k : Nat} {c : PV} {ρ : Nat → Loc} {I : Nat → Prop} {w : World} {v : Value} (h : VRel 2 ρ I w (.tup 2 (nthP [.agg 2 (nthP [slP k 0, .vmap c]), vi 0])) v) : VRel 1 ρ I w (.tup 2 (nthP [.agg 2 (nthP [slP k 0, .vmap c]), vi 0])) v := by
  obtain ⟨vs, h1, h2, h3⟩ := h
  refine ⟨vs, h1, h2, fun i hi => ?_⟩
  obtain rfl | rfl : i = 0 ∨ i = 1 := by omega
  · obtain ⟨us, g1, g2, g3⟩ := h3 0 (by omega)
    refine ⟨us, g1, g2, fun j hj => ⟨(g3 j hj).1, ?_⟩⟩
    obtain rfl | rfl : j = 0 ∨ j = 1 := by omega
    · cases k with
      | zero => exact VRel.close (ρ := ρ) _ _ _ _ trivial (g3 0 (by omega)).2
      | succ k =>
        have := (g3 0 (by omega)).2
        exact ⟨by omega, this.2⟩
    · exact VRel.close (ρ := ρ) _ _ _ _ trivial (g3 1 (by omega)).2
  · exact VRel.close (ρ := ρ) _ _ _ _ trivial (h3 1 (by omega))
theorem newGraph_d (nm : ByteArray) (l : List Df) (day : Int) (h : AgO nm l) (hl : l.length ≤ 1000000) (he : gErr nm l day = 0) : RowsC G.P 36 [] [vA nm l, vi day] (fun r rows => ∃ k, (nodS l day).length = k ∧ r = .tup 2 (nthP [.agg 2 (nthP [slP k 0, .vmap (cS (mapS l day))]), vi 0]) ∧ rows = [vRow c1 1 k (lF 0 (nodS l day))]) := rows_drop (newGraph_r nm l day h hl) fun r rows hr => by
  rcases hr with ⟨h1, _⟩ | ⟨_, k, hk2, rfl, rfl⟩
  · exact absurd he h1
  · refine ⟨1, Nat.zero_le _, (by show 1 ≤ 2; decide), ⟨k, hk2, rfl, rfl⟩, fun x r0 hx h0 => ?_, fun ρ I w v hv => gr_rel hv⟩
    obtain rfl : x = 0 := by omega
    have h0 : some (vRow c1 1 k (lF 0 (nodL l (actL l day)))) = some r0 := h0
    injection h0 with h0
    subst h0
    refine ⟨?_, v_cl c1_cl _ _ _⟩
    cases k <;> (intro hh; cases hh)
theorem deleteFunc10_c (F : FuncId) (c : Nat → PV) (p : Int → Bool) (hF : PrdC1 F c p) (f : Nat → Int) : PureC G.P 57 [.vsl 0 1 (tI f), .clo F 1 c] (fun r => r = .vsl 0 1 (tI f)) := by
  have c1 := indexFunc1_c 0 f F c p hF (by decide)
  refine pure_of (G := G.toPg) (fn := Tryz.f57) Tryz.func57 rfl rfl rfl ?_; intro Γ hk
  repeat' (first | refine gg ?_ | exact trivial | with_reducible refine wA ?_ ?_ | refine Y2.mk ?_ ?_ | refine gh ?_ | exact qq | fail)
  refine pop_call [] rfl rfl rfl rfl rfl c1 ⟨argVsl, argCl hF.cl, trivial⟩ ?_
  rintro _ ⟨i, hi, hv, ⟨hin, hp, rfl⟩ | ⟨rfl, rfl⟩⟩
  · omega
  · refine ⟨trivial, ?_⟩
    repeat' (first | refine gg ?_ | exact trivial | with_reducible refine wA ?_ ?_ | refine Y2.mk ?_ ?_ | refine gh ?_ | exact qq | fail)
    exact kretv rfl ⟨trivial, trivial⟩ rfl rfl
end Go.Proofs.YtcefhgomkehokaaGreat
namespace Go.Proofs.YtcefhgomkehokaaGreat
open Go.MapKept
def dnStep (L : List (Int × List Int)) (nx : Int) (out : List Int) (i : Int) : List Int := if ¬ i ∈ out ∧ nx ∈ sget L i then out ++ [i] else out
def dnIn (L : List (Int × List Int)) (nx : Int) (out N : List Int) : List Int := N.foldl (dnStep L nx) out
theorem dnIn_snoc {L : List (Int × List Int)} {nx : Int} {out N : List Int} {i : Int} : dnIn L nx out (N ++ [i]) = dnStep L nx (dnIn L nx out N) i := by
  unfold dnIn; rw [List.foldl_append]; rfl
def dnF (N : List Int) (L : List (Int × List Int)) : Nat → Nat → List Int → List Int
  | 0, _, out => out
  | f + 1, p, out => if p < out.length then dnF N L f (p + 1) (dnIn L (lF 0 out p) out N) else out
def dn0 (l : List Df) (s : ByteArray) (N : List Int) : List Int := N.filter fun x => mentS (lF dD l x.toNat).body s
def dnS (l : List Df) (day : Int) (s : ByteArray) : List Int := dnF (nodS l day) (mapS l day) ((nodS l day).length + 1) 0 (dn0 l s (nodS l day))
def DwnS (nm : ByteArray) (l : List Df) (day : Int) (s : ByteArray) : List Int := if gErr nm l day ≠ 0 then [] else (nodS l day).filter fun x => decide (x ∈ dnS l day s)
structure InvN (N out : List Int) : Prop where
  nd : out.Nodup
  sub : ∀ x, x ∈ out → x ∈ N
theorem InvN.len {N out : List Int} (h : InvN N out) : out.length ≤ N.length := nd_len h.nd h.sub
theorem InvN.snoc {N out : List Int} {i : Int} (h : InvN N out) (hi : i ∈ N) (hno : ¬ i ∈ out) : InvN N (out ++ [i]) := ⟨by
  rw [List.nodup_append]
  exact ⟨h.nd, by simp, fun a ha b hb => by
    have : b = i := by simpa using hb
    subst this
    exact fun e => hno (e ▸ ha)⟩, fun x hx => by
  rcases List.mem_append.1 hx with hx | hx
  · exact h.sub x hx
  · rw [List.mem_singleton.1 hx]; exact hi⟩
theorem InvN.step {N out : List Int} {L : List (Int × List Int)} {nx i : Int} (h : InvN N out) (hi : i ∈ N) : InvN N (dnStep L nx out i) := by
  unfold dnStep
  split
  · rename_i hc; exact h.snoc hi hc.1
  · exact h
theorem InvN.fold {N : List Int} {L : List (Int × List Int)} {nx : Int} : ∀ (A out : List Int), InvN N out → (∀ x, x ∈ A → x ∈ N) → InvN N (dnIn L nx out A)
  | [], out, h, _ => h
  | a :: A, out, h, hA => InvN.fold A (dnStep L nx out a) (h.step (hA a (List.mem_cons_self ..))) (fun x hx => hA x (List.mem_cons_of_mem _ hx))
theorem reached_p (out : List Int) : PrdC1 58 (nthP [cLis out]) (fun x => !decide (x ∈ out)) := ⟨trivial, fun x => by
  refine pure_of (G := G.toPg) (fn := Tryz.f58) Tryz.func58 rfl rfl rfl ?_; intro Γ hk
  repeat' (first | refine gg ?_ | exact trivial | with_reducible refine wA ?_ ?_ | refine Y2.mk ?_ ?_ | refine gh ?_ | exact qq | fail)
  refine pop_lookvB mapIBd false x rfl rfl rfl rfl rfl rfl ?_
  rw [show (bif false then PV.tup 2 (nthP [.val (bV ((mget (lsM out) x).getD 0)), vb (mget (lsM out) x).isSome]) else .val (bV ((mget (lsM out) x).getD 0))) = vb (decide (x ∈ out)) from lsM_b out x]
  repeat' (first | refine gg ?_ | exact trivial | with_reducible refine wA ?_ ?_ | refine Y2.mk ?_ ?_ | refine gh ?_ | exact qq | fail)
  exact kretv rfl ⟨trivial, trivial⟩ rfl rfl⟩
theorem vm1 {l : Nat} {c : PV} : ∀ i, i < 1 → ∀ j, j < 1 → VM l c ((cM1 (.mref l)).f i j) ((cM1 (.vmap c)).f i j) := fun i hi j hj => VM.ref
theorem gErr_chk {nm : ByteArray} {l : List Df} {day : Int} (h : gErr nm l day = 0) : chkE nm l day = 0 := by
  unfold gErr at h
  by_cases h1 : chkE nm l day ≠ 0
  · rw [if_pos h1] at h; exact absurd h h1
  · exact Decidable.not_not.1 h1
theorem dn0_snoc {l : List Df} {s : ByteArray} {A : List Int} {x : Int} : dn0 l s (A ++ [x]) = dn0 l s A ++ if mentS (lF dD l x.toNat).body s = true then [x] else [] := by
  unfold dn0
  rw [List.filter_append, List.filter_cons, List.filter_nil]
theorem nodS_nd (l : List Df) (day : Int) : (nodS l day).Nodup := by
  have h := (actN_asc l day l.length).filter (fun x => comp (lF dD l x.toNat))
  exact h.imp (fun hab => by omega)
theorem nodS_in {l : List Df} {day x : Int} (h : x ∈ nodS l day) : 0 ≤ x ∧ x < l.length ∧ comp (lF dD l x.toNat) = true := by
  obtain ⟨h1, h2⟩ := List.mem_filter.1 h
  have := actL_in x h1
  exact ⟨this.1, this.2, h2⟩
theorem not_not_dec {N out : List Int} : (N.filter fun x => !(!decide (x ∈ out))) = N.filter fun x => decide (x ∈ out) := by
  congr 1; funext x; rw [Bool.not_not]
set_option maxHeartbeats 16000000 in
theorem Downstream_c (nm : ByteArray) (l : List Df) (day : Int) (s : ByteArray) (h : AgO nm l) (hl : l.length ≤ 900000) : PureC G.P 34 [vA nm l, vi day, vs s] (fun r => r = sV (DwnS nm l day s)) := by
  by_cases he : gErr nm l day = 0
  · have cg := newGraph_d nm l day h (by omega) he
    have hNl := nodS_len l day
    have hvd := chk_valid (gErr_chk he)
    have hNnd := nodS_nd l day
    have hNin := fun x (hx : x ∈ nodS l day) => nodS_in hx
    have hLb : ∀ e, e ∈ mapS l day → e.2.length ≤ 1000000 := fun e he => Nat.le_trans (mapS_len l day e he) (by omega)
    have hX : DwnS nm l day s = (nodS l day).filter fun x => decide (x ∈ dnS l day s) := by unfold DwnS; rw [if_neg (fun hh => hh he)]
    have hD0 : dn0 l s (nodS l day) = [] → dnS l day s = [] := fun e => by unfold dnS; rw [e, dnF]; rfl
    refine pure_of (G := G.toPg) (fn := Tryz.f34) Tryz.func34 rfl rfl rfl ?_; intro Γ hk
    repeat' (first | refine gg ?_ | exact trivial | with_reducible refine wA ?_ ?_ | refine Y2.mk ?_ ?_ | refine gh ?_ | exact qq | fail)
    refine pop_rowsc [] rfl rfl rfl rfl rfl rfl .nil cg (by exact ⟨PEq.cl (vA nm l) (clA ⟨trivial, trivial, trivial⟩), PEq.refl _, trivial⟩) ?_
    rintro r rows ⟨k, hk2, rfl, rfl⟩
    generalize hN : nodS l day = N at *
    generalize hL : mapS l day = L at *
    rcases k with _ | k
    · refine ⟨_, _, rfl, ⟨v_cl c1_cl _ _ _, trivial⟩, rfl, ?_⟩
      repeat' (first | refine gg ?_ | exact trivial | with_reducible refine wA ?_ ?_ | refine Y2.mk ?_ ?_ | refine gh ?_ | exact qq | fail)
      refine pop_mkmapB kI rfl rfl rfl rfl rfl ?_
      repeat' (first | refine gg ?_ | exact trivial | with_reducible refine wA ?_ ?_ | refine Y2.mk ?_ ?_ | refine gh ?_ | exact qq | fail)
      refine ploopN 1 ?_
      repeat' (first | refine gg ?_ | exact trivial | with_reducible refine wA ?_ ?_ | refine Y2.mk ?_ ?_ | refine gh ?_ | exact qq | fail)
      refine ploopN 1 ?_
      repeat' (first | refine gg ?_ | exact trivial | with_reducible refine wA ?_ ?_ | refine Y2.mk ?_ ?_ | refine gh ?_ | exact qq | fail)
      refine ocan0 (st' := ⟨[(82, .val (.slice none 0 0)), (83, .clo 58 1 (nthP [cLis []]))], []⟩) ((((can_rowsv [3, 4] (tm := [(82, .val (.slice none 0 0)), (83, .clo 58 1 (nthP [.ptr 1 0 0]))]) (rows := [mRowB kI (lsM []), cM1 (.mref 0)]) (k0_sel hk rfl) rfl (.cons rfl m_eqB (.cons rfl (cM1_eq (PEq.refl _)) .nil)) (by exact ⟨PEq.refl _, PEq.clo1 (PEq.refl _), trivial⟩)).trans (can_vmap (one := false) (n := 0) (f := fun _ _ => .val (mVB kI (lsM []))) 0 (by rw [hk]; exact Nat.zero_le _) rfl trivial (tm := [(82, .val (.slice none 0 0)), (83, .clo 58 1 (nthP [.ptr 1 0 0]))]) (rows := [deadR, cM1 (.vmap (.val (mVB kI (lsM []))))]) (by exact ⟨VM.refl, VM.refl, trivial⟩) (by exact ⟨.inl rfl, .inr ⟨trivial, rfl, rfl, rfl, vm1⟩, trivial⟩))).trans (can_frz [1] (by intro l hl; rw [hk]; exact Nat.zero_le _) rfl (tm := [(82, .val (.slice none 0 0)), (83, .clo 58 1 (nthP [cLis []]))]) (by exact ⟨.inl rfl, .inr (argClo1 (argPtr (r := cM1 (.vmap (.val (mVB kI (lsM []))))) rfl trivial (List.Mem.head _) (Nat.le_refl _) rfl (fun a ha b hb => argCl trivial))), trivial⟩))).trans (can_rowsv [] (k0_sel hk rfl) rfl .nil (by exact ⟨PEq.refl _, PEq.cl _ (reached_p []).cl, trivial⟩))) ?_
      refine pop_callc [] rfl rfl rfl rfl rfl rfl (fun _ h => by cases h) (deleteFunc10_c _ _ _ (reached_p []) (lF 0 [])) ⟨argNil, argCl (reached_p []).cl, trivial⟩ ?_
      rintro _ rfl
      repeat' (first | refine gg ?_ | exact trivial | with_reducible refine wA ?_ ?_ | refine Y2.mk ?_ ?_ | refine gh ?_ | exact qq | fail)
      refine kretv rfl ⟨trivial, trivial⟩ rfl ?_
      rw [hX, List.length_eq_zero_iff.1 hk2]; rfl
    · refine ⟨_, _, rfl, ⟨v_cl c1_cl _ _ _, trivial⟩, rfl, ?_⟩
      repeat' (first | refine gg ?_ | exact trivial | with_reducible refine wA ?_ ?_ | refine Y2.mk ?_ ?_ | refine gh ?_ | exact qq | fail)
      refine pop_mkmapB kI rfl rfl rfl rfl rfl ?_
      repeat' (first | refine gg ?_ | exact trivial | with_reducible refine wA ?_ ?_ | refine Y2.mk ?_ ?_ | refine gh ?_ | exact qq | fail)
      refine pcan ((can_virt (vRow c1 1 0 (lF 0 [])) rfl).trans (can_rowsv [0, 1, 2, 3, 4, 5] (tm := [(2, vs s), (3, .ptr 0 0 0), (7, .ptr 2 0 0), (9, .ptr 4 0 0), (10, slP (0) 5), (26, .lsl 1 0 (k + 1)), (27, vi ((k + 1 : Nat) : Int)), (28, vi ((0 : Nat) : Int))]) (rows := [rA1 nm l, vRow c1 1 (k + 1) (lF 0 N), cG (.lsl 1 0 (k + 1)) (.vmap (cS L)), mRowB kI (lsM ([])), cM1 (.mref 3), vRow c1 1 (0) (lF 0 ([]))]) (k0_sel hk rfl) rfl (.cons rfl (RowEq.cl (rA1_cl _ _)) (.cons rfl (RowEq.cl (v_cl c1_cl _ _ _)) (.cons rfl (cG_eq (PEq.refl _) (PEq.refl _)) (.cons rfl m_eqB (.cons rfl (cM1_eq (PEq.refl _)) (.cons rfl (RowEq.cl (v_cl c1_cl _ _ _)) .nil)))))) tmq)) ?_
      refine ploop (fun q st => ∃ (i m : Nat) (out : List Int), i ≤ N.length ∧ out = dn0 l s (N.take i) ∧ out.length = m ∧ q = N.length - i ∧ st = ⟨[(2, vs s), (3, .ptr 0 0 0), (7, .ptr 2 0 0), (9, .ptr 4 0 0), (10, slP (m) 5), (26, .lsl 1 0 (k + 1)), (27, vi ((k + 1 : Nat) : Int)), (28, vi i)], [rA1 nm l, vRow c1 1 (k + 1) (lF 0 N), cG (.lsl 1 0 (k + 1)) (.vmap (cS L)), mRowB kI (lsM (out)), cM1 (.mref 3), vRow c1 1 (m) (lF 0 (out))]⟩) N.length ⟨0, 0, [], Nat.zero_le _, by rw [List.take_zero]; rfl, rfl, rfl, rfl⟩ ?_
      rintro _ _ ⟨i, m, out, hi, ho, hm, rfl, rfl⟩
      have hw1 : IntKind.i64.wrap ((i : Int) + 1) = ((i + 1 : Nat) : Int) := w64 (by omega) (by omega)
      have hmb : m ≤ 1000000 := by rw [← hm, ho]; exact Nat.le_trans (List.length_filter_le _ _) (by rw [List.length_take]; omega)
      rcases m with _ | m
      · --
        repeat' (first | refine gg ?_ | exact trivial | with_reducible refine wA ?_ ?_ | refine Y2.mk ?_ ?_ | refine gh ?_ | exact qq | fail)
        refine pcond rfl ?_ ?_ <;> intro hc
        · have hc : i < k + 1 := by have := of_decide_eq_true hc; omega
          have hT : N.take (i + 1) = N.take i ++ [lF 0 N i] := by
            unfold lF
            rw [List.take_add_one, List.getD_eq_getElem?_getD, List.getElem?_eq_getElem (by omega)]; rfl
          have hxN : lF 0 N i ∈ N := by rw [lF_get' (by omega)]; exact List.getElem_mem (by omega)
          have hx := hNin _ hxN
          have hx3 : (lF 0 N i).toNat < l.length := by omega
          have hbo := h.body hvd hx3 hx.2.2
          have hz : 0 + ((i : Nat) : Int).toNat = i := by omega
          have cm := mentions_c (lF dD l (lF 0 N (0 + ((i : Nat) : Int).toNat)).toNat).body s (by rw [hz]; exact hbo.1) (by rw [hz]; exact hbo.2)
          rw [show mentS (lF dD l (lF 0 N (0 + ((i : Nat) : Int).toNat)).toNat).body s = mentS (lF dD l (lF 0 N i).toNat).body s by rw [hz]] at cm
          have hS := dn0_snoc (l := l) (s := s) (A := N.take i) (x := lF 0 N i)
          rw [← hT, ← ho] at hS
          have hnot : ¬ lF 0 N i ∈ out := fun hh => by
            rw [ho] at hh
            have h1 := (List.mem_filter.1 hh).1
            have h2 : (N.take i ++ [lF 0 N i]).Nodup := hT ▸ hNnd.sublist (List.take_sublist _ _)
            rw [List.nodup_append] at h2
            exact h2.2.2 _ h1 _ (List.mem_singleton.2 rfl) rfl
          cases hme : mentS (lF dD l (lF 0 N i).toNat).body s with
          | false =>
            rw [hme] at cm
            rw [hme, if_neg (by decide), List.append_nil] at hS
            repeat' (first | refine gg ?_ | exact trivial | with_reducible refine wA ?_ ?_ | refine Y2.mk ?_ ?_ | (rw [hz]; exact ⟨hx.1, hx.2.1⟩) | (rw [hz]; exact hx3) | refine zz cm ?_ | refine gh ?_ | exact qq | fail)
            rw [hw1]
            exact kloop_next (st' := ⟨[(2, vs s), (3, .ptr 0 0 0), (7, .ptr 2 0 0), (9, .ptr 4 0 0), (10, slP (0) 5), (26, .lsl 1 0 (k + 1)), (27, vi ((k + 1 : Nat) : Int)), (28, vi ((i + 1 : Nat) : Int))], [rA1 nm l, vRow c1 1 (k + 1) (lF 0 N), cG (.lsl 1 0 (k + 1)) (.vmap (cS L)), mRowB kI (lsM (out)), cM1 (.mref 3), vRow c1 1 (0) (lF 0 (out))]⟩) (N.length - (i + 1)) (can_rowsv [0, 1, 2, 3, 4, 5] (k0_sel hk rfl) rfl (.cons rfl (RowEq.cl (rA1_cl _ _)) (.cons rfl (RowEq.cl (v_cl c1_cl _ _ _)) (.cons rfl (cG_eq (PEq.refl _) (PEq.refl _)) (.cons rfl m_eqB (.cons rfl (cM1_eq (PEq.refl _)) (.cons rfl (RowEq.cl (v_cl c1_cl _ _ _)) .nil)))))) tmq) (by omega) ⟨i + 1, 0, out, by omega, by rw [hS], hm, rfl, rfl⟩
          | true =>
            rw [hme] at cm
            rw [hme, if_pos rfl] at hS
            repeat' (first | refine gg ?_ | exact trivial | with_reducible refine wA ?_ ?_ | refine Y2.mk ?_ ?_ | (rw [hz]; exact ⟨hx.1, hx.2.1⟩) | (rw [hz]; exact hx3) | refine zz cm ?_ | refine gh ?_ | exact qq | fail)
            rw [hz]
            refine pop_msetB (l := 3) mapIBd (lF 0 N i) 1 rfl rfl rfl rfl rfl rfl rfl (by rw [hk]; exact Nat.zero_le _) rfl rfl ?_
            rw [lsM_set hnot]
            repeat' (first | refine gg ?_ | exact trivial | with_reducible refine wA ?_ ?_ | refine Y2.mk ?_ ?_ | exact ⟨Nat.le_refl _, (by rw [hk]; exact Nat.le_of_ble_eq_true rfl), Nat.le_of_eq (Nat.zero_add _), (show (_ : Nat) * 8 ≤ 140737488355328 from by omega), (show (_ : Nat) ≤ 9223372036854775807 from by omega)⟩ | refine gh ?_ | exact qq | fail)
            rw [hw1]
            exact kloop_next (st' := ⟨[(2, vs s), (3, .ptr 0 0 0), (7, .ptr 2 0 0), (9, .ptr 4 0 0), (10, slP (0 + 1) 5), (26, .lsl 1 0 (k + 1)), (27, vi ((k + 1 : Nat) : Int)), (28, vi ((i + 1 : Nat) : Int))], [rA1 nm l, vRow c1 1 (k + 1) (lF 0 N), cG (.lsl 1 0 (k + 1)) (.vmap (cS L)), mRowB kI (lsM (out ++ [lF 0 N i])), cM1 (.mref 3), vRow c1 1 (0 + 1) (lF 0 (out ++ [lF 0 N i]))]⟩) (N.length - (i + 1)) (can_rowsv [0, 1, 2, 3, 4, 7] (k0_sel hk rfl) rfl (.cons rfl (RowEq.cl (rA1_cl _ _)) (.cons rfl (RowEq.cl (v_cl c1_cl _ _ _)) (.cons rfl (cG_eq (PEq.refl _) (PEq.refl _)) (.cons rfl m_eqB (.cons rfl (cM1_eq (PEq.refl _)) (.cons rfl (app_l0 c1_cl hm rfl) .nil)))))) tmq) (by omega) ⟨i + 1, 0 + 1, out ++ [lF 0 N i], by omega, by rw [hS], by rw [List.length_append, hm]; rfl, rfl, rfl⟩
        · have hil : i = k + 1 := by have := of_decide_eq_false hc; omega
          subst hil
          rw [show N.take (k + 1) = N from by rw [← hk2]; exact List.take_length] at ho
          repeat' (first | refine gg ?_ | exact trivial | with_reducible refine wA ?_ ?_ | refine Y2.mk ?_ ?_ | refine gh ?_ | exact qq | fail)
          refine pcan (st' := ⟨[(7, .ptr 2 0 0), (9, .ptr 4 0 0), (10, slP 0 5)], [rA1 nm l, vRow c1 1 (k + 1) (lF 0 N), cG (.lsl 1 0 (k + 1)) (.vmap (cS L)), mRowB kI (lsM (out)), cM1 (.mref 3), vRow c1 1 (0) (lF 0 (out))]⟩) (can_rowsv [0, 1, 2, 3, 4, 5] (k0_sel hk rfl) rfl (.cons rfl (RowEq.cl (rA1_cl _ _)) (.cons rfl (RowEq.cl (v_cl c1_cl _ _ _)) (.cons rfl (cG_eq (PEq.refl _) (PEq.refl _)) (.cons rfl m_eqB (.cons rfl (cM1_eq (PEq.refl _)) (.cons rfl (RowEq.cl (v_cl c1_cl _ _ _)) .nil)))))) tmq) ?_
          refine ploopN 1 ?_
          have ho0 : out = [] := List.length_eq_zero_iff.1 hm
          subst ho0
          repeat' (first | refine gg ?_ | exact trivial | with_reducible refine wA ?_ ?_ | refine Y2.mk ?_ ?_ | refine gh ?_ | exact qq | fail)
          refine ocan0 (st' := ⟨[(82, .lsl 0 0 (k + 1)), (83, .clo 58 1 (nthP [cLis ([])]))], [iRow (k + 1) (lF 0 N)]⟩) (((can_vmap (one := false) (n := 0) (f := fun _ _ => .val (mVB kI (lsM ([])))) 3 (by rw [hk]; exact Nat.zero_le _) rfl trivial (tm := [(82, .lsl 1 0 (k + 1)), (83, .clo 58 1 (nthP [.ptr 4 0 0]))]) (rows := [rA1 nm l, vRow c1 1 (k + 1) (lF 0 N), cG (.lsl 1 0 (k + 1)) (.vmap (cS L)), deadR, cM1 (.vmap (.val (mVB kI (lsM ([]))))), vRow c1 1 (0) (lF 0 ([]))]) (by exact ⟨VM.refl, VM.refl, trivial⟩) (by exact ⟨.inl rfl, .inl rfl, .inl rfl, .inl rfl, .inr ⟨trivial, rfl, rfl, rfl, vm1⟩, .inl rfl, trivial⟩)).trans (can_frz [4] (by intro l hl; rw [hk]; exact Nat.zero_le _) rfl (tm := [(82, .lsl 1 0 (k + 1)), (83, .clo 58 1 (nthP [cLis ([])]))]) (by exact ⟨.inl rfl, .inr (argClo1 (argPtr (r := cM1 (.vmap (.val (mVB kI (lsM ([])))))) rfl trivial (List.Mem.head _) (Nat.le_refl _) rfl (fun a ha b hb => argCl trivial))), trivial⟩))).trans (can_rowsv [1] (k0_sel hk rfl) rfl (.cons rfl vi_row .nil) (by exact ⟨PEq.refl _, PEq.cl _ (reached_p ([])).cl, trivial⟩))) ?_
          refine pop_rowsc [0] rfl rfl rfl rfl rfl rfl (.cons rfl trivial (RowEq.cl (i_cl _ _)) .nil) (deleteFunc1_r (k + 1) N hk2 _ _ _ (reached_p ([])) (by omega)) (by exact ⟨PEq.refl _, PEq.cl _ (reached_p ([])).cl, trivial⟩) ?_
          rintro r rows ⟨rfl, rfl⟩
          refine ⟨_, _, rfl, ⟨i_cl _ _, trivial⟩, rfl, ?_⟩
          repeat' (first | refine gg ?_ | exact trivial | with_reducible refine wA ?_ ?_ | refine Y2.mk ?_ ?_ | refine gh ?_ | exact qq | fail)
          refine xdone ?_
          rw [not_not_dec]
          generalize hM : (N.filter fun x => decide (x ∈ ([]))) = M
          refine kret [0] rfl ⟨trivial, trivial⟩ (qs := [sV M]) ⟨argLsl (r := iRow M.length (lF 0 M)) rfl trivial (List.Mem.head _) (by show 0 + M.length ≤ M.length; omega) (fun a ha b hb => ⟨by rw [Nat.zero_add]; rfl, trivial⟩), trivial⟩ ?_
          rw [← hM, hX, hD0 ho.symm]; rfl
      · --
        repeat' (first | refine gg ?_ | exact trivial | with_reducible refine wA ?_ ?_ | refine Y2.mk ?_ ?_ | refine gh ?_ | exact qq | fail)
        refine pcond rfl ?_ ?_ <;> intro hc
        · have hc : i < k + 1 := by have := of_decide_eq_true hc; omega
          have hT : N.take (i + 1) = N.take i ++ [lF 0 N i] := by
            unfold lF
            rw [List.take_add_one, List.getD_eq_getElem?_getD, List.getElem?_eq_getElem (by omega)]; rfl
          have hxN : lF 0 N i ∈ N := by rw [lF_get' (by omega)]; exact List.getElem_mem (by omega)
          have hx := hNin _ hxN
          have hx3 : (lF 0 N i).toNat < l.length := by omega
          have hbo := h.body hvd hx3 hx.2.2
          have hz : 0 + ((i : Nat) : Int).toNat = i := by omega
          have cm := mentions_c (lF dD l (lF 0 N (0 + ((i : Nat) : Int).toNat)).toNat).body s (by rw [hz]; exact hbo.1) (by rw [hz]; exact hbo.2)
          rw [show mentS (lF dD l (lF 0 N (0 + ((i : Nat) : Int).toNat)).toNat).body s = mentS (lF dD l (lF 0 N i).toNat).body s by rw [hz]] at cm
          have hS := dn0_snoc (l := l) (s := s) (A := N.take i) (x := lF 0 N i)
          rw [← hT, ← ho] at hS
          have hnot : ¬ lF 0 N i ∈ out := fun hh => by
            rw [ho] at hh
            have h1 := (List.mem_filter.1 hh).1
            have h2 : (N.take i ++ [lF 0 N i]).Nodup := hT ▸ hNnd.sublist (List.take_sublist _ _)
            rw [List.nodup_append] at h2
            exact h2.2.2 _ h1 _ (List.mem_singleton.2 rfl) rfl
          cases hme : mentS (lF dD l (lF 0 N i).toNat).body s with
          | false =>
            rw [hme] at cm
            rw [hme, if_neg (by decide), List.append_nil] at hS
            repeat' (first | refine gg ?_ | exact trivial | with_reducible refine wA ?_ ?_ | refine Y2.mk ?_ ?_ | (rw [hz]; exact ⟨hx.1, hx.2.1⟩) | (rw [hz]; exact hx3) | refine zz cm ?_ | refine gh ?_ | exact qq | fail)
            rw [hw1]
            exact kloop_next (st' := ⟨[(2, vs s), (3, .ptr 0 0 0), (7, .ptr 2 0 0), (9, .ptr 4 0 0), (10, slP (m + 1) 5), (26, .lsl 1 0 (k + 1)), (27, vi ((k + 1 : Nat) : Int)), (28, vi ((i + 1 : Nat) : Int))], [rA1 nm l, vRow c1 1 (k + 1) (lF 0 N), cG (.lsl 1 0 (k + 1)) (.vmap (cS L)), mRowB kI (lsM (out)), cM1 (.mref 3), vRow c1 1 (m + 1) (lF 0 (out))]⟩) (N.length - (i + 1)) (can_rowsv [0, 1, 2, 3, 4, 5] (k0_sel hk rfl) rfl (.cons rfl (RowEq.cl (rA1_cl _ _)) (.cons rfl (RowEq.cl (v_cl c1_cl _ _ _)) (.cons rfl (cG_eq (PEq.refl _) (PEq.refl _)) (.cons rfl m_eqB (.cons rfl (cM1_eq (PEq.refl _)) (.cons rfl (RowEq.cl (v_cl c1_cl _ _ _)) .nil)))))) tmq) (by omega) ⟨i + 1, m + 1, out, by omega, by rw [hS], hm, rfl, rfl⟩
          | true =>
            rw [hme] at cm
            rw [hme, if_pos rfl] at hS
            repeat' (first | refine gg ?_ | exact trivial | with_reducible refine wA ?_ ?_ | refine Y2.mk ?_ ?_ | (rw [hz]; exact ⟨hx.1, hx.2.1⟩) | (rw [hz]; exact hx3) | refine zz cm ?_ | refine gh ?_ | exact qq | fail)
            rw [hz]
            refine pop_msetB (l := 3) mapIBd (lF 0 N i) 1 rfl rfl rfl rfl rfl rfl rfl (by rw [hk]; exact Nat.zero_le _) rfl rfl ?_
            rw [lsM_set hnot]
            repeat' (first | refine gg ?_ | exact trivial | with_reducible refine wA ?_ ?_ | refine Y2.mk ?_ ?_ | exact ⟨Nat.le_refl _, (by rw [hk]; exact Nat.le_of_ble_eq_true rfl), Nat.le_of_eq (Nat.zero_add _), (show (_ : Nat) * 8 ≤ 140737488355328 from by omega), (show (_ : Nat) ≤ 9223372036854775807 from by omega)⟩ | refine gh ?_ | exact qq | fail)
            rw [hw1]
            exact kloop_next (st' := ⟨[(2, vs s), (3, .ptr 0 0 0), (7, .ptr 2 0 0), (9, .ptr 4 0 0), (10, slP (m + 1 + 1) 5), (26, .lsl 1 0 (k + 1)), (27, vi ((k + 1 : Nat) : Int)), (28, vi ((i + 1 : Nat) : Int))], [rA1 nm l, vRow c1 1 (k + 1) (lF 0 N), cG (.lsl 1 0 (k + 1)) (.vmap (cS L)), mRowB kI (lsM (out ++ [lF 0 N i])), cM1 (.mref 3), vRow c1 1 (m + 1 + 1) (lF 0 (out ++ [lF 0 N i]))]⟩) (N.length - (i + 1)) (can_rowsv [0, 1, 2, 3, 4, 7] (k0_sel hk rfl) rfl (.cons rfl (RowEq.cl (rA1_cl _ _)) (.cons rfl (RowEq.cl (v_cl c1_cl _ _ _)) (.cons rfl (cG_eq (PEq.refl _) (PEq.refl _)) (.cons rfl m_eqB (.cons rfl (cM1_eq (PEq.refl _)) (.cons rfl (app_l c1_cl hm rfl rfl) .nil)))))) tmq) (by omega) ⟨i + 1, m + 1 + 1, out ++ [lF 0 N i], by omega, by rw [hS], by rw [List.length_append, hm]; rfl, rfl, rfl⟩
        · have hil : i = k + 1 := by have := of_decide_eq_false hc; omega
          subst hil
          rw [show N.take (k + 1) = N from by rw [← hk2]; exact List.take_length] at ho
          repeat' (first | refine gg ?_ | exact trivial | with_reducible refine wA ?_ ?_ | refine Y2.mk ?_ ?_ | refine gh ?_ | exact qq | fail)
          refine pcan (st' := ⟨[(7, .ptr 2 0 0), (9, .ptr 4 0 0), (10, .lsl 5 0 (m + 1))], [rA1 nm l, vRow c1 1 (k + 1) (lF 0 N), cG (.lsl 1 0 (k + 1)) (.vmap (cS L)), mRowB kI (lsM (out)), cM1 (.mref 3), iRow (m + 1) (lF 0 out)]⟩) (can_rowsv [0, 1, 2, 3, 4, 5] (k0_sel hk rfl) rfl (.cons rfl (RowEq.cl (rA1_cl _ _)) (.cons rfl (RowEq.cl (v_cl c1_cl _ _ _)) (.cons rfl (cG_eq (PEq.refl _) (PEq.refl _)) (.cons rfl m_eqB (.cons rfl (cM1_eq (PEq.refl _)) (.cons rfl (vi_row) .nil)))))) tmq) ?_
          have hI0 : InvN N out := ⟨by rw [ho]; exact hNnd.filter _, fun x hx => by rw [ho] at hx; exact (List.mem_filter.1 hx).1⟩
          have hD0' : dnS l day s = dnF N L (N.length + 1) 0 out := by rw [ho, ← hN, ← hL]; rfl
          clear hD0
          refine ploop (fun q st => ∃ (p o M n : Nat) (g : Nat → Int) (out : List Int), InvN N out ∧ p ≤ out.length ∧ dnS l day s = dnF N L (N.length + 1 - p) p out ∧ out.length = p + n ∧ o + n ≤ M ∧ (∀ a, a < n → g (o + a) = lF 0 (out.drop p) a) ∧ q = N.length - p ∧ st = ⟨[(7, .ptr 2 0 0), (9, .ptr 4 0 0), (10, .lsl 5 o n)], [rA1 nm l, vRow c1 1 (k + 1) (lF 0 N), cG (.lsl 1 0 (k + 1)) (.vmap (cS L)), mRowB kI (lsM (out)), cM1 (.mref 3), iRow M g]⟩) N.length ⟨0, 0, m + 1, m + 1, lF 0 out, out, hI0, Nat.zero_le _, hD0', by omega, by omega, fun a ha => by rw [Nat.zero_add, List.drop_zero], rfl, rfl⟩ ?_
          clear hI0 hD0' ho hm
          rintro _ _ ⟨p, o, M, n, g, out, hI, hpl, hD, hP, hM, hg, rfl, rfl⟩
          have hIl := hI.len
          repeat' (first | refine gg ?_ | exact trivial | with_reducible refine wA ?_ ?_ | refine Y2.mk ?_ ?_ | refine gh ?_ | exact qq | fail)
          refine pcond rfl ?_ ?_ <;> intro hc
          · have hc : 0 < n := by have := of_decide_eq_true hc; omega
            obtain ⟨n, rfl⟩ : ∃ n', n = n' + 1 := ⟨n - 1, by omega⟩
            have hg0 : g o = lF 0 out p := by
              have := hg 0 (by omega)
              rw [Nat.add_zero] at this
              rw [this]; unfold lF; rw [List.getD_eq_getElem?_getD, List.getD_eq_getElem?_getD, List.getElem?_drop, Nat.add_zero]
            obtain ⟨nx, hnx⟩ : ∃ nx, lF 0 out p = nx := ⟨_, rfl⟩
            repeat' (first | refine gg ?_ | exact trivial | with_reducible refine wA ?_ ?_ | refine Y2.mk ?_ ?_ | (show o + 0 < M; omega) | exact ⟨by decide, by omega⟩ | exact ⟨trivial, trivial, by decide, by omega, Int.le_refl _⟩ | refine gh ?_ | exact qq | fail)
            refine pcan (can_rowsv [0, 1, 2, 3, 4, 5] (tm := [(7, .ptr 2 0 0), (9, .ptr 4 0 0), (10, .lsl 5 (o + 1) (n)), (13, vi nx), (56, .lsl 1 0 (k + 1)), (57, vi ((k + 1 : Nat) : Int)), (58, vi ((0 : Nat) : Int))]) (rows := [rA1 nm l, vRow c1 1 (k + 1) (lF 0 N), cG (.lsl 1 0 (k + 1)) (.vmap (cS L)), mRowB kI (lsM (out)), cM1 (.mref 3), iRow M g]) (k0_sel hk rfl) rfl (.cons rfl (RowEq.cl (rA1_cl _ _)) (.cons rfl (RowEq.cl (v_cl c1_cl _ _ _)) (.cons rfl (cG_eq (PEq.refl _) (PEq.refl _)) (.cons rfl m_eqB (.cons rfl (cM1_eq (PEq.refl _)) (.cons rfl (RowEq.cl (i_cl _ _)) .nil)))))) (by exact ⟨PEq.refl _, PEq.refl _, PEq.of (by show PV.lsl 5 (o + 1) _ = _; congr 1; omega), PEq.of (by show vi (g (o + 0)) = vi nx; rw [Nat.add_zero, hg0, hnx]), PEq.refl _, PEq.refl _, PEq.refl _, trivial⟩)) ?_
            refine ploop (fun q st => ∃ (i p2 k2 M2 : Nat) (g2 : Nat → Int) (o2 : List Int), i ≤ N.length ∧ o2 = dnIn L nx out (N.take i) ∧ o2.length = p + 1 + k2 ∧ p2 + k2 ≤ M2 ∧ (∀ a, a < k2 → g2 (p2 + a) = lF 0 (o2.drop (p + 1)) a) ∧ q = N.length - i ∧ st = ⟨[(7, .ptr 2 0 0), (9, .ptr 4 0 0), (10, .lsl 5 (p2) (k2)), (13, vi nx), (56, .lsl 1 0 (k + 1)), (57, vi ((k + 1 : Nat) : Int)), (58, vi i)], [rA1 nm l, vRow c1 1 (k + 1) (lF 0 N), cG (.lsl 1 0 (k + 1)) (.vmap (cS L)), mRowB kI (lsM (o2)), cM1 (.mref 3), iRow M2 g2]⟩) N.length ⟨0, o + 1, n, M, g, out, Nat.zero_le _, by rw [List.take_zero]; rfl, by omega, by omega, fun a ha => by
              rw [show o + 1 + a = o + (a + 1) by omega, hg (a + 1) (by omega)]
              unfold lF
              rw [List.getD_eq_getElem?_getD, List.getD_eq_getElem?_getD, List.getElem?_drop, List.getElem?_drop, show p + (a + 1) = p + 1 + a by omega], rfl, rfl⟩ ?_
            rintro _ _ ⟨i, p2, k2, M2, g2, o2, hi, hs, hP2, hM2, hg2, rfl, rfl⟩
            have hw1 : IntKind.i64.wrap ((i : Int) + 1) = ((i + 1 : Nat) : Int) := w64 (by omega) (by omega)
            have hJ : InvN N o2 := hs ▸ InvN.fold (N.take i) out hI (fun x hx => List.mem_of_mem_take hx)
            have hJl2 := hJ.len
            have hQ2 : (o2.drop (p + 1)).length = k2 := by rw [List.length_drop]; omega
            repeat' (first | refine gg ?_ | exact trivial | with_reducible refine wA ?_ ?_ | refine Y2.mk ?_ ?_ | refine gh ?_ | exact qq | fail)
            refine pcond rfl ?_ ?_ <;> intro hc2
            · have hc2 : i < k + 1 := by have := of_decide_eq_true hc2; omega
              have hT : N.take (i + 1) = N.take i ++ [lF 0 N i] := by
                unfold lF
                rw [List.take_add_one, List.getD_eq_getElem?_getD, List.getElem?_eq_getElem (by omega)]; rfl
              have hxN : lF 0 N i ∈ N := by rw [lF_get' (by omega)]; exact List.getElem_mem (by omega)
              have hS : dnIn L nx out (N.take (i + 1)) = dnStep L nx o2 (lF 0 N i) := by rw [hT, dnIn_snoc, ← hs]
              have cn := contains_c (sget L (lF 0 N i)) nx (Nat.le_trans (sget_len (N := N) hLb _) (by decide))
              have hz : 0 + ((i : Nat) : Int).toNat = i := by omega
              repeat' (first | refine gg ?_ | exact trivial | with_reducible refine wA ?_ ?_ | refine Y2.mk ?_ ?_ | refine gh ?_ | exact qq | fail)
              rw [hz]
              refine pop_lookB mapIBd false (lF 0 N i) rfl rfl rfl rfl rfl rfl rfl ?_
              rw [show (bif false then PV.tup 2 (nthP [.val (bV ((mget (lsM o2) (lF 0 N i)).getD 0)), vb (mget (lsM o2) (lF 0 N i)).isSome]) else .val (bV ((mget (lsM o2) (lF 0 N i)).getD 0))) = vb (decide (lF 0 N i ∈ o2)) from lsM_b o2 (lF 0 N i)]
              by_cases hin : lF 0 N i ∈ o2
              · have hS2 : dnStep L nx o2 (lF 0 N i) = o2 := by unfold dnStep; rw [if_neg (fun hh => hh.1 hin)]
                rw [decide_eq_true hin]
                repeat' (first | refine gg ?_ | exact trivial | with_reducible refine wA ?_ ?_ | refine Y2.mk ?_ ?_ | (refine pop_gfalse rfl rfl rfl rfl ?_) | exact (fun hh => by cases hh) | refine gh ?_ | exact qq | fail)
                rw [hw1]
                exact kloop_next (st' := ⟨[(7, .ptr 2 0 0), (9, .ptr 4 0 0), (10, .lsl 5 (p2) (k2)), (13, vi nx), (56, .lsl 1 0 (k + 1)), (57, vi ((k + 1 : Nat) : Int)), (58, vi ((i + 1 : Nat) : Int))], [rA1 nm l, vRow c1 1 (k + 1) (lF 0 N), cG (.lsl 1 0 (k + 1)) (.vmap (cS L)), mRowB kI (lsM (o2)), cM1 (.mref 3), iRow (M2) g2]⟩) (N.length - (i + 1)) (can_rowsv [0, 1, 2, 3, 4, 5] (k0_sel hk rfl) rfl (.cons rfl (RowEq.cl (rA1_cl _ _)) (.cons rfl (RowEq.cl (v_cl c1_cl _ _ _)) (.cons rfl (cG_eq (PEq.refl _) (PEq.refl _)) (.cons rfl m_eqB (.cons rfl (cM1_eq (PEq.refl _)) (.cons rfl (RowEq.cl (i_cl _ _)) .nil)))))) tmq) (by omega) ⟨i + 1, p2, k2, M2, g2, o2, by omega, by rw [hS, hS2], hP2, hM2, hg2, rfl, rfl⟩
              · rw [decide_eq_false hin]
                by_cases hx : nx ∈ sget L (lF 0 N i)
                · rw [decide_eq_true hx] at cn
                  have hS2 : dnStep L nx o2 (lF 0 N i) = o2 ++ [lF 0 N i] := by unfold dnStep; rw [if_pos ⟨hin, hx⟩]
                  repeat' (first | refine gg ?_ | exact trivial | with_reducible refine wA ?_ ?_ | refine Y2.mk ?_ ?_ | refine gh ?_ | exact qq | fail)
                  refine pop_opt 68 rfl rfl ?_
                  refine pop_opt 69 rfl rfl ?_
                  refine pop_unguard rfl rfl ?_
                  refine pop_lookvS mapIS (lF 0 N i) rfl rfl rfl rfl rfl rfl ?_
                  repeat' (first | refine gg ?_ | exact trivial | with_reducible refine wA ?_ ?_ | refine Y2.mk ?_ ?_ | (refine pop_unguard rfl rfl ?_) | refine gh ?_ | exact qq | fail)
                  refine pop_opt 71 rfl rfl ?_
                  repeat' (first | refine gg ?_ | exact trivial | with_reducible refine wA ?_ ?_ | refine Y2.mk ?_ ?_ | refine zz cn ?_ | refine gh ?_ | exact qq | fail)
                  refine pop_msetB (l := 3) mapIBd (lF 0 N i) 1 rfl rfl rfl rfl rfl rfl rfl (by rw [hk]; exact Nat.zero_le _) rfl rfl ?_
                  rw [lsM_set hin]
                  have hkb : k2 ≤ 1000000 := by omega
                  repeat' (first | refine gg ?_ | exact trivial | with_reducible refine wA ?_ ?_ | refine Y2.mk ?_ ?_ | exact ⟨Nat.le_refl _, (by rw [hk]; exact Nat.le_of_ble_eq_true rfl), hM2, (show (_ : Nat) * 8 ≤ 140737488355328 from by omega), (show (_ : Nat) ≤ 9223372036854775807 from by omega)⟩ | refine gh ?_ | exact qq | fail)
                  rw [hw1]
                  exact kloop_next (st' := ⟨[(7, .ptr 2 0 0), (9, .ptr 4 0 0), (10, .lsl 5 (0) (k2 + 1)), (13, vi nx), (56, .lsl 1 0 (k + 1)), (57, vi ((k + 1 : Nat) : Int)), (58, vi ((i + 1 : Nat) : Int))], [rA1 nm l, vRow c1 1 (k + 1) (lF 0 N), cG (.lsl 1 0 (k + 1)) (.vmap (cS L)), mRowB kI (lsM (o2 ++ [lF 0 N i])), cM1 (.mref 3), iRow (k2 + 1) (lF 0 (o2.drop (p + 1) ++ [lF 0 N i]))]⟩) (N.length - (i + 1)) (can_rowsv [0, 1, 2, 3, 4, 7] (k0_sel hk rfl) rfl (.cons rfl (RowEq.cl (rA1_cl _ _)) (.cons rfl (RowEq.cl (v_cl c1_cl _ _ _)) (.cons rfl (cG_eq (PEq.refl _) (PEq.refl _)) (.cons rfl m_eqB (.cons rfl (cM1_eq (PEq.refl _)) (.cons rfl (app_q hQ2 hg2) .nil)))))) tmq) (by omega) ⟨i + 1, 0, k2 + 1, k2 + 1, lF 0 (o2.drop (p + 1) ++ [lF 0 N i]), o2 ++ [lF 0 N i], by omega, by rw [hS, hS2], by rw [List.length_append, hP2]; rfl, by omega, fun a ha => by rw [Nat.zero_add, List.drop_append_of_le_length (by omega)], rfl, rfl⟩
                · rw [decide_eq_false hx] at cn
                  have hS2 : dnStep L nx o2 (lF 0 N i) = o2 := by unfold dnStep; rw [if_neg (fun hh => hx hh.2)]
                  repeat' (first | refine gg ?_ | exact trivial | with_reducible refine wA ?_ ?_ | refine Y2.mk ?_ ?_ | refine gh ?_ | exact qq | fail)
                  refine pop_opt 68 rfl rfl ?_
                  refine pop_opt 69 rfl rfl ?_
                  refine pop_unguard rfl rfl ?_
                  refine pop_lookvS mapIS (lF 0 N i) rfl rfl rfl rfl rfl rfl ?_
                  repeat' (first | refine gg ?_ | exact trivial | with_reducible refine wA ?_ ?_ | refine Y2.mk ?_ ?_ | (refine pop_unguard rfl rfl ?_) | refine gh ?_ | exact qq | fail)
                  refine pop_opt 71 rfl rfl ?_
                  repeat' (first | refine gg ?_ | exact trivial | with_reducible refine wA ?_ ?_ | refine Y2.mk ?_ ?_ | refine zz cn ?_ | refine gh ?_ | exact qq | fail)
                  rw [hw1]
                  exact kloop_next (st' := ⟨[(7, .ptr 2 0 0), (9, .ptr 4 0 0), (10, .lsl 5 (p2) (k2)), (13, vi nx), (56, .lsl 1 0 (k + 1)), (57, vi ((k + 1 : Nat) : Int)), (58, vi ((i + 1 : Nat) : Int))], [rA1 nm l, vRow c1 1 (k + 1) (lF 0 N), cG (.lsl 1 0 (k + 1)) (.vmap (cS L)), mRowB kI (lsM (o2)), cM1 (.mref 3), iRow (M2) g2]⟩) (N.length - (i + 1)) (can_rowsv [0, 1, 2, 3, 4, 5] (k0_sel hk rfl) rfl (.cons rfl (RowEq.cl (rA1_cl _ _)) (.cons rfl (RowEq.cl (v_cl c1_cl _ _ _)) (.cons rfl (cG_eq (PEq.refl _) (PEq.refl _)) (.cons rfl m_eqB (.cons rfl (cM1_eq (PEq.refl _)) (.cons rfl (RowEq.cl (i_cl _ _)) .nil)))))) tmq) (by omega) ⟨i + 1, p2, k2, M2, g2, o2, by omega, by rw [hS, hS2], hP2, hM2, hg2, rfl, rfl⟩
            · have hil : i = k + 1 := by have := of_decide_eq_false hc2; omega
              subst hil
              rw [show N.take (k + 1) = N from by rw [← hk2]; exact List.take_length] at hs
              have hJl := hJ.len
              repeat' (first | refine gg ?_ | exact trivial | with_reducible refine wA ?_ ?_ | refine Y2.mk ?_ ?_ | refine gh ?_ | exact qq | fail)
              exact kloop_next (st' := ⟨[(7, .ptr 2 0 0), (9, .ptr 4 0 0), (10, .lsl 5 p2 k2)], [rA1 nm l, vRow c1 1 (k + 1) (lF 0 N), cG (.lsl 1 0 (k + 1)) (.vmap (cS L)), mRowB kI (lsM (o2)), cM1 (.mref 3), iRow M2 g2]⟩) (N.length - (p + 1)) (can_rowsv [0, 1, 2, 3, 4, 5] (k0_sel hk rfl) rfl (.cons rfl (RowEq.cl (rA1_cl _ _)) (.cons rfl (RowEq.cl (v_cl c1_cl _ _ _)) (.cons rfl (cG_eq (PEq.refl _) (PEq.refl _)) (.cons rfl m_eqB (.cons rfl (cM1_eq (PEq.refl _)) (.cons rfl (RowEq.cl (i_cl _ _)) .nil)))))) tmq) (by omega) ⟨p + 1, p2, M2, k2, g2, o2, hJ, by omega, by
                rw [hD, show N.length + 1 - p = N.length + 1 - (p + 1) + 1 by omega, dnF, if_pos (by omega), hnx, ← hs], by omega, hM2, hg2, rfl, rfl⟩
          · have hn0 : n = 0 := by have := of_decide_eq_false hc; omega
            subst hn0
            have hfin : dnS l day s = out := by
              rw [hD]
              cases hf : N.length + 1 - p with
              | zero => rfl
              | succ f => rw [dnF, if_neg (by omega)]
            repeat' (first | refine gg ?_ | exact trivial | with_reducible refine wA ?_ ?_ | refine Y2.mk ?_ ?_ | refine gh ?_ | exact qq | fail)
            refine ocan0 (st' := ⟨[(82, .lsl 0 0 (k + 1)), (83, .clo 58 1 (nthP [cLis (out)]))], [iRow (k + 1) (lF 0 N)]⟩) (((can_vmap (one := false) (n := 0) (f := fun _ _ => .val (mVB kI (lsM (out)))) 3 (by rw [hk]; exact Nat.zero_le _) rfl trivial (tm := [(82, .lsl 1 0 (k + 1)), (83, .clo 58 1 (nthP [.ptr 4 0 0]))]) (rows := [rA1 nm l, vRow c1 1 (k + 1) (lF 0 N), cG (.lsl 1 0 (k + 1)) (.vmap (cS L)), deadR, cM1 (.vmap (.val (mVB kI (lsM (out))))), iRow M g]) (by exact ⟨VM.refl, VM.refl, trivial⟩) (by exact ⟨.inl rfl, .inl rfl, .inl rfl, .inl rfl, .inr ⟨trivial, rfl, rfl, rfl, vm1⟩, .inl rfl, trivial⟩)).trans (can_frz [4] (by intro l hl; rw [hk]; exact Nat.zero_le _) rfl (tm := [(82, .lsl 1 0 (k + 1)), (83, .clo 58 1 (nthP [cLis (out)]))]) (by exact ⟨.inl rfl, .inr (argClo1 (argPtr (r := cM1 (.vmap (.val (mVB kI (lsM (out)))))) rfl trivial (List.Mem.head _) (Nat.le_refl _) rfl (fun a ha b hb => argCl trivial))), trivial⟩))).trans (can_rowsv [1] (k0_sel hk rfl) rfl (.cons rfl vi_row .nil) (by exact ⟨PEq.refl _, PEq.cl _ (reached_p (out)).cl, trivial⟩))) ?_
            refine pop_rowsc [0] rfl rfl rfl rfl rfl rfl (.cons rfl trivial (RowEq.cl (i_cl _ _)) .nil) (deleteFunc1_r (k + 1) N hk2 _ _ _ (reached_p (out)) (by omega)) (by exact ⟨PEq.refl _, PEq.cl _ (reached_p (out)).cl, trivial⟩) ?_
            rintro r rows ⟨rfl, rfl⟩
            refine ⟨_, _, rfl, ⟨i_cl _ _, trivial⟩, rfl, ?_⟩
            repeat' (first | refine gg ?_ | exact trivial | with_reducible refine wA ?_ ?_ | refine Y2.mk ?_ ?_ | refine gh ?_ | exact qq | fail)
            refine xdone ?_
            rw [not_not_dec]
            generalize hM : (N.filter fun x => decide (x ∈ (out))) = M
            refine kret [0] rfl ⟨trivial, trivial⟩ (qs := [sV M]) ⟨argLsl (r := iRow M.length (lF 0 M)) rfl trivial (List.Mem.head _) (by show 0 + M.length ≤ M.length; omega) (fun a ha b hb => ⟨by rw [Nat.zero_add]; rfl, trivial⟩), trivial⟩ ?_
            rw [← hM, hX, hfin]; rfl
  · have cg := newGraph_c1 nm l day h (by omega) he
    refine pure_of (G := G.toPg) (fn := Tryz.f34) Tryz.func34 rfl rfl rfl ?_; intro Γ hk
    repeat' (first | refine gg ?_ | exact trivial | with_reducible refine wA ?_ ?_ | refine Y2.mk ?_ ?_ | (refine pop_callc [] rfl rfl rfl rfl rfl rfl (fun _ h => by cases h) (cg) (args_cl _ rfl) ?_; rintro _ rfl) | refine gh ?_ | exact qq | fail)
    refine pcond (b := true) (eqB (by simpa using he)) ?_ ?_ <;> intro h1
    · repeat' (first | refine gg ?_ | exact trivial | with_reducible refine wA ?_ ?_ | refine Y2.mk ?_ ?_ | refine gh ?_ | exact qq | fail)
      refine kret [] rfl ⟨trivial, trivial⟩ (qs := [.vsl 0 1 (tI (lF 0 []))]) ⟨argNil, trivial⟩ ?_
      unfold DwnS; rw [if_pos he]; rfl
    · cases h1
end Go.Proofs.YtcefhgomkehokaaGreat
