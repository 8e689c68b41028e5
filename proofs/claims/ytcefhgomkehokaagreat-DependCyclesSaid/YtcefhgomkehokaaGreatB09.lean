/- clear of a part of a row of numbers. -/
import Derived.Test.YtcefhgomkehokaaGreatB08
import Derived.Laws.IdiomCopy
import Derived.Sort.Grow
import Derived.Test.YtcefhgomkehokaaGreatB04
import Derived.Shelf.SortM.Plain
import Derived.Shelf.SortM.SortNone
import Derived.Test.YtcefhgomkehokaaGreatB07
set_option linter.unusedSimpArgs false
set_option linter.unusedVariables false
namespace Go.Proofs.YtcefhgomkehokaaGreat
theorem ocan0 {G : Pg} {N : Nat} {Γ : Fr} {st st' : PSt} {K : Exit → PSt → Prop} {ops : Array Oper} {l : List Oper} (hc : Can N Γ st st') (h : POps G N Γ ops l st' K) : POps G N Γ ops l st K := .mk fun ρ I a w hr => by
  obtain ⟨ρ', I', h1⟩ := hc ρ I a w hr
  exact h.go ρ' I' a w h1
section
variable {G : Pg} {N : Nat} {Γ : Fr} {st : PSt} {K : Exit → PSt → Prop} {ops : Array Oper} {o : Oper} {rest : List Oper} {l : Nat} {x : Operand} {t e : TypeId} {i n : Nat} {r : Row} {m' : List Row}
def clrF (i n : Nat) (f : Nat → Nat → PV) : Nat → Nat → PV := fun a b => if i ≤ a ∧ a < i + n then vi 0 else f a b
theorem pop_clear (hu : G.P.underlying t = some (.slice e)) (hz : ∀ w, (zeroValue e).run G.P w = .ok (.int .i64 0) w) (hg : o.guard = none) (hd : o.dst = none) (ho : o.op = .call ⟨.builtin .clear, #[x], #[t]⟩) (hx : st.ev x = .lsl l i n) (hr : rowAt st.mem l = some r) (hs : r.s = .own) (hsz : r.sz = 1)
    (hm : setM st.mem l ⟨.own, false, r.n, 1, clrF i n r.f⟩ some = some m') (h : POps G N Γ ops rest ⟨st.tm, m'⟩ K) : POps G N Γ ops (o :: rest) st K := .mk fun ρ I a w hrel => by
  have hw : Region.wanted o (yielded ops a.tmps) = true := by simp [Region.wanted, hg]
  simp only [wpList, hw, if_true]
  refine .inl ?_
  rw [rowAt_get] at hr
  rw [setM_eq] at hm
  simp only [Option.some.injEq] at hm
  subst hm
  have hxv := ev_rel hrel x
  rw [hx] at hxv
  obtain ⟨hlk, hxv⟩ := hxv
  have hio : r.s.isOwn := by rw [hs]; trivial
  obtain ⟨hs0, cs, T, hcb, hcell⟩ := hrel.fr.m.row l r hr (RS.live_of_own hio)
  have hs1 : (ρ l).sz = 1 := hs0.trans hsz
  have hrun : ∃ ws : List Value, ws.length = n ∧ (∀ q, q < n → ws[q]? = some (.int .i64 0)) ∧ (execOp a.eval o).run G.P w = .ok (.value (.tuple #[])) (w.setCells (ρ l).b ((ρ l).o + i) ws) := by
    rcases hxv with ⟨rfl, ad, hv⟩ | ⟨cap, hcap, hv, cs2, T2, fz2, hcb2, hsz2⟩
    · refine ⟨[], rfl, fun q hq => by omega, ?_⟩
      simp only [execOp, ho, resolve, Sem.run_bind, Sem.run_pure, Result.andThen_ok, invoke, builtin]
      have e1 : (#[x].map a.eval) = #[a.eval x] := by simp
      rw [e1, hv]
      cases ad <;> simp [Builtin.clear_, run_underlying hu, World.setCells]
    · rw [hcb] at hcb2
      simp only [Option.some.injEq, Obj.cells.injEq] at hcb2
      obtain ⟨rfl, rfl, rfl⟩ := hcb2
      rw [hs1] at hsz2 hv
      have hzc : (Builtin.zeroCells #[Value.int .i64 0] n).toList = List.replicate n (.int .i64 0) := by
        apply List.ext_getElem?
        intro q
        simp [Builtin.zeroCells, List.getElem?_replicate]
        by_cases hq : q < n
        · simp [hq, Nat.mod_one]
        · simp [hq]
      refine ⟨List.replicate n (.int .i64 0), by simp, fun q hq => by simp [hq], ?_⟩
      simp only [execOp, ho, resolve, Sem.run_bind, Sem.run_pure, Result.andThen_ok, invoke, builtin]
      have e1 : (#[x].map a.eval) = #[a.eval x] := by simp
      rw [e1, hv]
      rcases n with _ | n
      · simp [Builtin.clear_, run_underlying hu, World.setCells]
      · have hst := run_storeCells_cells (P := G.P) (ρ l).b ((ρ l).o + i * 1) (List.replicate (n + 1) (.int .i64 0)) 0 w (fun j hj => by
            have hj : j < n + 1 := by simpa using hj
            simp only [World.cell?, hcb]
            have : (ρ l).o + i * 1 + 0 + j < cs.size := by omega
            simp only [Nat.mul_one, Nat.add_zero] at this ⊢
            simp [this]) (fun j hj => by simp [World.frozen?, hcb]) (fun u hu => by
            have := List.eq_of_mem_replicate hu
            rw [this]; rfl)
        rw [← hzc] at hst
        simp only [Nat.add_zero] at hst
        rw [hzc, Nat.mul_one] at hst
        simp [Builtin.clear_, run_underlying hu, hz, Value.cells, hzc, hst, Result.andThen]
  obtain ⟨ws, w1, w2, hv⟩ := hrun
  simp only [Oper.wp, hv, Oper.upon_value, hd, Act.put]
  obtain ⟨cs', k1, k2, k3⟩ := heap_setCells (ρ l).b ws ((ρ l).o + i) w cs T (0, 0) hcb
  obtain ⟨z1, z2, z3, z4⟩ := rest_setCells (ρ l).b ws ((ρ l).o + i) w
  refine h.go ρ I _ _ (hrel.setRow hr hio ⟨.own, false, r.n, 1, clrF i n r.f⟩ rfl hsz.symm hcb k1 k2 (fun b hne => other_setCells _ _ _ _ b hne) z1 z2 z3 z4 (fun p hp q hq => ?_))
  have hq : q < 1 := hq
  obtain rfl : q = 0 := by omega
  have hp : p < r.n := hp
  obtain ⟨u, g1, g2, g3⟩ := hcell p hp 0 (by omega)
  rw [hsz] at g1
  rw [k3]
  by_cases hc : i ≤ p ∧ p < i + n
  · have hlt : (ρ l).o + p * 1 + 0 < cs.size := by
      by_cases hlt : (ρ l).o + p * 1 + 0 < cs.size
      · exact hlt
      · rw [Array.getElem?_eq_none (by omega)] at g1; cases g1
    simp only
    rw [if_pos (by omega)]
    refine ⟨_, rfl, ?_⟩
    have e2 : ws.getD ((ρ l).o + p * 1 + 0 - ((ρ l).o + i)) undef = .int .i64 0 := by
      rw [show (ρ l).o + p * 1 + 0 - ((ρ l).o + i) = p - i by omega, List.getD_eq_getElem?_getD, w2 _ (by omega)]; rfl
    rw [e2]
    refine ⟨rfl, ?_⟩
    show VRel _ _ _ _ (clrF i n r.f p 0) _
    unfold clrF; rw [if_pos hc]; exact rfl
  · simp only
    rw [if_neg (by omega)]
    refine ⟨u, g1, g2, ?_⟩
    show VRel _ _ _ _ (clrF i n r.f p 0) _
    unfold clrF; rw [if_neg hc]; exact g3
end
end Go.Proofs.YtcefhgomkehokaaGreat
set_option maxRecDepth 100000
namespace Go.Proofs.YtcefhgomkehokaaGreat
structure PrdC (F : FuncId) (c : Nat → PV) (p : Int → Bool) : Prop where
  c0 : Cl (c 0)
  c1 : Cl (c 1)
  run : ∀ x, PureC G.P F [vi x, c 0, c 1] (fun r => r = vb (p x))
theorem PrdC.cl {F : FuncId} {c : Nat → PV} {p : Int → Bool} (h : PrdC F c p) : Cl (.clo F 2 c) := fun i hi => by
  rcases (by omega : i = 0 ∨ i = 1) with rfl | rfl
  · exact h.c0
  · exact h.c1
theorem PrdC.eq {F : FuncId} {c : Nat → PV} {p : Int → Bool} (h : PrdC F c p) {τ : Nat → Option Nat} : PEq ((PV.clo F 2 c).ren τ) (.clo F 2 c) := PEq.cl _ h.cl
theorem indexFunc_c (n : Nat) (g : Nat → Int) (F : FuncId) (c : Nat → PV) (p : Int → Bool) (hF : PrdC F c p) (hn : n ≤ 1000000000) :
    PureC G.P 60 [.vsl n 1 (tI g), .clo F 2 c] (fun r => ∃ i : Nat, i ≤ n ∧ (∀ j, j < i → p (g j) = false) ∧ ((i < n ∧ p (g i) = true ∧ r = vi i) ∨ (i = n ∧ r = vi (-1)))) := by
  refine pure_of (G := G.toPg) (fn := Tryz.f60) Tryz.func60 rfl rfl rfl ?_; intro Γ hk
  repeat' (first | refine gg ?_ | exact trivial | with_reducible refine wA ?_ ?_ | refine Y2.mk ?_ ?_ | refine gh ?_ | exact qq | fail)
  refine pcan (st' := ⟨[(0, .vsl n 1 (tI g)), (1, .clo F 2 c), (7, vi n), (8, vi ((0 : Nat) : Int))], []⟩) (can_rowsv [] (k0_sel hk rfl) rfl .nil (by exact ⟨PEq.refl _, hF.eq, PEq.refl _, PEq.refl _, trivial⟩)) ?_
  refine ploop (fun q st => ∃ i : Nat, i ≤ n ∧ (∀ j, j < i → p (g j) = false) ∧ q = n - i ∧ st = ⟨[(0, .vsl n 1 (tI g)), (1, .clo F 2 c), (7, vi n), (8, vi i)], []⟩) n ⟨0, by omega, fun j hj => by omega, rfl, rfl⟩ ?_
  rintro _ _ ⟨i, hi, hv, rfl, rfl⟩
  repeat' (first | refine gg ?_ | exact trivial | with_reducible refine wA ?_ ?_ | refine Y2.mk ?_ ?_ | refine gh ?_ | exact qq | fail)
  refine pcond rfl ?_ ?_ <;> intro hc <;> simp at hc
  · repeat' (first | refine gg ?_ | exact trivial | with_reducible refine wA ?_ ?_ | refine Y2.mk ?_ ?_ | refine gh ?_ | exact qq | fail)
    refine pop_rowsc [] rfl rfl rfl rfl rfl rfl .nil (pure_rows (hF.run (g i))) (by exact ⟨PEq.refl _, PEq.cl _ hF.c0, PEq.cl _ hF.c1, trivial⟩) ?_
    rintro _ _ ⟨rfl, rfl⟩
    refine ⟨_, _, rfl, trivial, rfl, ?_⟩
    cases hp : p (g i) with
    | true =>
      repeat' (first | refine gg ?_ | exact trivial | with_reducible refine wA ?_ ?_ | refine Y2.mk ?_ ?_ | refine gh ?_ | exact qq | fail)
      exact kret [] rfl ⟨trivial, trivial⟩ (qs := [vi i]) ⟨argVal, trivial⟩ ⟨i, by omega, hv, .inl ⟨hc, hp, rfl⟩⟩
    | false =>
      repeat' (first | refine gg ?_ | exact trivial | with_reducible refine wA ?_ ?_ | refine Y2.mk ?_ ?_ | refine gh ?_ | exact qq | fail)
      rw [show IntKind.i64.wrap ((i : Int) + 1) = ((i + 1 : Nat) : Int) from w64 (by omega) (by omega)]
      exact kloop_next (st' := ⟨[(0, .vsl n 1 (tI g)), (1, .clo F 2 c), (7, vi n), (8, vi ((i + 1 : Nat) : Int))], []⟩) (n - (i + 1)) (can_rowsv [] (k0_sel hk rfl) rfl .nil (by exact ⟨PEq.refl _, hF.eq, PEq.refl _, PEq.refl _, trivial⟩)) (by omega) ⟨i + 1, by omega, fun j hj => by
        by_cases e : j = i
        · subst e; exact hp
        · exact hv j (by omega), rfl, rfl⟩
  · have hin : i = n := by omega
    subst hin
    repeat' (first | refine gg ?_ | exact trivial | with_reducible refine wA ?_ ?_ | refine Y2.mk ?_ ?_ | refine gh ?_ | exact qq | fail)
    exact kret [] rfl ⟨trivial, trivial⟩ (qs := [vi (-1)]) ⟨argVal, trivial⟩ ⟨i, by omega, hv, .inr ⟨rfl, rfl⟩⟩
theorem lF_get' {l : List Int} {i : Nat} (h : i < l.length) : lF 0 l i = l[i] := by
  unfold lF; rw [List.getD_eq_getElem?_getD, List.getElem?_eq_getElem h]; rfl
theorem filt_step {D : List Int} {q : Int → Bool} {j : Nat} (h : j < D.length) : (D.take (j + 1)).filter q = (D.take j).filter q ++ (if q (lF 0 D j) = true then [lF 0 D j] else []) := by
  rw [List.take_add_one, List.getElem?_eq_getElem h, List.filter_append, lF_get' h]
  simp only [Option.toList_some, List.filter_cons, List.filter_nil]
theorem hu_int : G.P.underlying 22 = some (.slice 3) := Tryz.underlying22
theorem hz_int : ∀ w, (zeroValue 3).run G.P w = .ok (.int .i64 0) w := Tryz.zeroValue3
end Go.Proofs.YtcefhgomkehokaaGreat
namespace Go.Proofs.YtcefhgomkehokaaGreat
structure CmpR (D M : List Int) : Prop where
  srt : M.Pairwise (· < ·)
  mem : ∀ x, x ∈ M ↔ x ∈ D
theorem cmpR_snoc {D : List Int} (hS : D.Pairwise (· ≤ ·)) {q : Nat} (hq : q < D.length) (h0 : 0 < q) {M : List Int} (h : CmpR (D.take q) M) :
    (lF 0 D q = lF 0 D (q - 1) → CmpR (D.take (q + 1)) M) ∧ (lF 0 D q ≠ lF 0 D (q - 1) → CmpR (D.take (q + 1)) (M ++ [lF 0 D q])) := by
  have e1 := lF_get' hq
  have e0 := lF_get' (show q - 1 < D.length by omega)
  have ht : D.take (q + 1) = D.take q ++ [lF 0 D q] := by rw [List.take_add_one, List.getElem?_eq_getElem hq, e1]; rfl
  have hin : lF 0 D (q - 1) ∈ D.take q := by
    rw [e0, List.mem_take_iff_getElem]
    exact ⟨q - 1, by omega, rfl⟩
  have hle : ∀ x, x ∈ D.take q → x ≤ lF 0 D (q - 1) := fun x hx => by
    obtain ⟨j, hj, rfl⟩ := List.mem_take_iff_getElem.1 hx
    rw [e0]
    by_cases hjq : j = q - 1
    · subst hjq; exact Int.le_refl _
    · exact List.pairwise_iff_getElem.1 hS j (q - 1) (by omega) (by omega) (by omega)
  have hle2 : lF 0 D (q - 1) ≤ lF 0 D q := by
    rw [e0, e1]; exact List.pairwise_iff_getElem.1 hS (q - 1) q (by omega) hq (by omega)
  constructor
  · intro e
    refine ⟨h.srt, fun x => ?_⟩
    rw [ht, List.mem_append, h.mem]
    constructor
    · exact .inl
    · rintro (hx | hx)
      · exact hx
      · rw [List.mem_singleton.1 hx, e]; exact hin
  · intro e
    refine ⟨?_, fun x => by rw [ht, List.mem_append, List.mem_append, h.mem]⟩
    rw [List.pairwise_append]
    refine ⟨h.srt, by simp, fun a ha b hb => ?_⟩
    have ha2 := hle a ((h.mem a).1 ha)
    rw [List.mem_singleton.1 hb]; omega
theorem cmpR_take {D : List Int} (hS : D.Pairwise (· ≤ ·)) {k : Nat} (hk : k ≤ D.length) (h : ∀ a, 1 ≤ a → a < k → lF 0 D a ≠ lF 0 D (a - 1)) : CmpR (D.take k) (D.take k) := by
  refine ⟨?_, fun x => Iff.rfl⟩
  induction k with
  | zero => simp
  | succ k ih =>
    have ih := ih (by omega) fun a h1 h2 => h a h1 (by omega)
    by_cases h0 : k = 0
    · subst h0
      rw [List.take_add_one]; simp
    · have ht : D.take (k + 1) = D.take k ++ [lF 0 D k] := by rw [List.take_add_one, List.getElem?_eq_getElem (by omega), lF_get' (by omega)]; rfl
      rw [ht]
      exact ((cmpR_snoc hS (q := k) (by omega) (by omega) ⟨ih, fun x => Iff.rfl⟩).2 (h k (by omega) (by omega))).srt
set_option maxHeartbeats 1000000 in
theorem compact_r (n : Nat) (D : List Int) (hD : D.length = n) (hS : D.Pairwise (· ≤ ·)) (hn : n ≤ 1000000000) :
    RowsC G.P 71 [iRow n (lF 0 D)] [.lsl 0 0 n] (fun r rows => ∃ M, CmpR D M ∧ r = .lsl 0 0 M.length ∧ rows = [iRow M.length (lF 0 M)]) := by
  refine rows_of (G := G.toPg) (fn := Tryz.f71) Tryz.func71 rfl rfl rfl ?_; intro Γ hk
  repeat' (first | refine gg ?_ | exact trivial | with_reducible refine wA ?_ ?_ | refine Y2.mk ?_ ?_ | refine gh ?_ | exact qq | fail)
  refine pcond rfl ?_ ?_ <;> intro hc <;> simp at hc
  · repeat' (first | refine gg ?_ | exact trivial | with_reducible refine wA ?_ ?_ | refine Y2.mk ?_ ?_ | refine gh ?_ | exact qq | fail)
    refine xdone ?_
    refine kretr (st' := ⟨[(2, .lsl 0 0 n)], [iRow n (lF 0 D)]⟩) (can_rowsv [0] (k0_sel hk rfl) rfl (by (repeat (refine SelV.cons rfl rqq ?_)); exact SelV.nil) tmq) rfl ⟨trivial, trivial⟩ rfl ⟨D, ⟨?_, fun x => Iff.rfl⟩, by rw [hD]; rfl, by rw [hD]⟩
    match D, hD with
    | [], _ => simp
    | [x], _ => simp
    | x :: y :: l, h => simp at h; omega
  · repeat' (first | refine gg ?_ | exact trivial | with_reducible refine wA ?_ ?_ | refine Y2.mk ?_ ?_ | refine gh ?_ | exact qq | fail)
    refine pcan (st' := ⟨[(0, .lsl 0 0 n), (3, vi ((1 : Nat) : Int))], [iRow n (lF 0 D)]⟩) (can_rowsv [0] (k0_sel hk rfl) rfl (by (repeat (refine SelV.cons rfl rqq ?_)); exact SelV.nil) tmq) ?_
    refine ploop (fun q st => ∃ k : Nat, 1 ≤ k ∧ k ≤ n ∧ (∀ a, 1 ≤ a → a < k → lF 0 D a ≠ lF 0 D (a - 1)) ∧ q = n - k ∧ st = ⟨[(0, .lsl 0 0 n), (3, vi k)], [iRow n (lF 0 D)]⟩) (n - 1) ⟨1, by omega, by omega, fun a h1 h2 => by omega, rfl, rfl⟩ ?_
    rintro _ _ ⟨k, hk1, hk2, hne, rfl, rfl⟩
    have hw0 : IntKind.i64.wrap ((k : Int) - 1) = ((k - 1 : Nat) : Int) := by rw [w64 (by omega) (by omega)]; omega
    repeat' (first | refine gg ?_ | exact trivial | with_reducible refine wA ?_ ?_ | refine Y2.mk ?_ ?_ | refine gh ?_ | exact qq | fail)
    refine pcond rfl ?_ ?_ <;> intro hc2 <;> simp at hc2
    · repeat' (first | refine gg ?_ | exact trivial | with_reducible refine wA ?_ ?_ | refine Y2.mk ?_ ?_ | refine xs_start (id := 6) true [.take 0, .take 1, .take 2, .take 3, .take 4, .take 5, .take 6, .take 7, .take 8, .take 9] 0 rfl rfl (by kernel_rfl) ?_ | refine xs_start (id := 11) true [.take 0, .take 1, .take 2, .take 3, .take 4, .take 5, .take 6, .take 7, .take 8, .take 9] 0 rfl rfl (by kernel_rfl) ?_ | refine gh ?_ | exact qq | fail)
      rw [hw0]
      refine pcond (b := decide (lF 0 D k = lF 0 D (k - 1))) ?_ ?_ ?_
      · refine eqB ?_
        show (lF 0 D (0 + (k : Int).toNat) == lF 0 D (0 + ((k - 1 : Nat) : Int).toNat)) = _
        rw [show 0 + (k : Int).toNat = k by omega, show 0 + ((k - 1 : Nat) : Int).toNat = k - 1 by omega, Bool.eq_iff_iff]; simp
      · intro h
        have h := of_decide_eq_true h
        have hstart : CmpR (D.take (k + 1)) (D.take k) := (cmpR_snoc hS (q := k) (by omega) (by omega) (cmpR_take hS (by omega) hne)).1 h
        repeat' (first | refine gg ?_ | exact trivial | with_reducible refine wA ?_ ?_ | refine Y2.mk ?_ ?_ | refine gh ?_ | exact qq | fail)
        · exact ⟨trivial, trivial, by omega, by omega, by omega⟩
        refine pcan (st' := ⟨[(0, .lsl 0 0 n), (3, vi k), (4, .lsl 0 k (n - k)), (5, vi ((1 : Nat) : Int))], [iRow n (lF 0 D)]⟩) (can_rowsv [0] (k0_sel hk rfl) rfl (.cons rfl rqq .nil) (by exact ⟨PEq.refl _, PEq.refl _, PEq.of (by show PV.lsl 0 (0 + (k : Int).toNat) ((n : Int) - (k : Int)).toNat = _; congr 1 <;> omega), PEq.refl _, trivial⟩)) ?_
        refine ploop (fun z st => ∃ (q m : Nat) (M : List Int) (f : Nat → Int), 1 ≤ q ∧ k + q ≤ n ∧ m ≤ k + q - 1 ∧ M.length = m ∧ CmpR (D.take (k + q)) M ∧ (∀ a, a < m → f a = lF 0 M a) ∧ (∀ a, k + q - 1 ≤ a → f a = lF 0 D a) ∧ z = n - (k + q) ∧ st = ⟨[(0, .lsl 0 0 n), (3, vi m), (4, .lsl 0 k (n - k)), (5, vi q)], [iRow n f]⟩) (n - (k + 1)) ⟨1, k, D.take k, lF 0 D, by omega, by omega, by omega, by simp; omega, hstart, fun a ha => by rw [lF_get' (by omega), lF_get' (by simp; omega), List.getElem_take], fun a ha => rfl, rfl, rfl⟩ ?_
        rintro _ _ ⟨q, m, M, f, hq1, hq2, hm, hM, hC, hf, hg, rfl, rfl⟩
        have hw1 : IntKind.i64.wrap ((q : Int) - 1) = ((q - 1 : Nat) : Int) := by rw [w64 (by omega) (by omega)]; omega
        have hw2 : IntKind.i64.wrap ((q : Int) + 1) = ((q + 1 : Nat) : Int) := w64 (by omega) (by omega)
        have hw3 : IntKind.i64.wrap ((m : Int) + 1) = ((m + 1 : Nat) : Int) := w64 (by omega) (by omega)
        repeat' (first | refine gg ?_ | exact trivial | with_reducible refine wA ?_ ?_ | refine Y2.mk ?_ ?_ | refine gh ?_ | exact qq | fail)
        refine pcond rfl ?_ ?_ <;> intro hc3 <;> simp at hc3
        · have hsn := cmpR_snoc hS (q := k + q) (by omega) (by omega) hC
          have hf1 : f (k + q) = lF 0 D (k + q) := hg _ (by omega)
          have hf0 : f (k + (q - 1)) = lF 0 D (k + q - 1) := by rw [hg _ (by omega)]; congr 1; omega
          repeat' (first | refine gg ?_ | exact trivial | with_reducible refine wA ?_ ?_ | refine Y2.mk ?_ ?_ | refine xs_start (id := 6) true [.take 0, .take 1, .take 2, .take 3, .take 4, .take 5, .take 6, .take 7, .take 8, .take 9] 0 rfl rfl (by kernel_rfl) ?_ | refine xs_start (id := 11) true [.take 0, .take 1, .take 2, .take 3, .take 4, .take 5, .take 6, .take 7, .take 8, .take 9] 0 rfl rfl (by kernel_rfl) ?_ | refine gh ?_ | exact qq | fail)
          rw [hw1]
          refine pcond (b := decide (lF 0 D (k + q) ≠ lF 0 D (k + q - 1))) ?_ ?_ ?_
          · refine eqB ?_
            show (f (k + (q : Int).toNat) != f (k + ((q - 1 : Nat) : Int).toNat)) = _
            rw [show (q : Int).toNat = q by omega, show ((q - 1 : Nat) : Int).toNat = q - 1 by omega, hf1, hf0, Bool.eq_iff_iff]; simp
          · intro h5
            have h5 := of_decide_eq_true h5
            repeat' (first | refine gg ?_ | exact trivial | with_reducible refine wA ?_ ?_ | refine Y2.mk ?_ ?_ | refine gh ?_ | exact qq | fail)
            rw [hw2, hw3]
            have e1 : ∀ a, a ≠ m → (upd f m (f (k + q))) a = f a := fun a ha => if_neg ha
            have e2 : (upd f m (f (k + q))) m = lF 0 D (k + q) := by unfold upd; rw [if_pos rfl, hf1]
            refine kloop_next (st' := ⟨[(0, .lsl 0 0 n), (3, vi ((m + 1 : Nat) : Int)), (4, .lsl 0 k (n - k)), (5, vi ((q + 1 : Nat) : Int))], [iRow n (upd f m (f (k + q)))]⟩) (n - (k + (q + 1))) (can_rowsv [0] (k0_sel hk rfl) rfl (.cons rfl (i_eq (Nat.le_refl _) fun a ha => ?_) .nil) tmq) (by omega) ⟨q + 1, m + 1, M ++ [lF 0 D (k + q)], _, by omega, by omega, by omega, by rw [List.length_append, hM]; rfl, hsn.2 h5, fun a ha => ?_, fun a ha => by rw [e1 a (by omega)]; exact hg a (by omega), rfl, rfl⟩
            · show updR (tI f) (0 + (m : Int).toNat) [vi (f (k + (q : Int).toNat))] a 0 = _
              rw [show 0 + (m : Int).toNat = m by omega, show (q : Int).toNat = q by omega]
              exact upd_eq f m (f (k + q)) a 0 rfl
            · by_cases e : a = m
              · subst e
                rw [e2]
                have := lF_at (d := 0) (y := lF 0 D (k + q)) (l := M) (r := [])
                rw [hM] at this; exact this.symm
              · rw [e1 a e, hf a (by omega), lF_lt (by omega)]
          · intro h5
            have h5 : lF 0 D (k + q) = lF 0 D (k + q - 1) := Decidable.not_not.1 (of_decide_eq_false h5)
            repeat' (first | refine gg ?_ | exact trivial | with_reducible refine wA ?_ ?_ | refine Y2.mk ?_ ?_ | refine gh ?_ | exact qq | fail)
            rw [hw2]
            exact kloop_next (st' := ⟨[(0, .lsl 0 0 n), (3, vi m), (4, .lsl 0 k (n - k)), (5, vi ((q + 1 : Nat) : Int))], [iRow n f]⟩) (n - (k + (q + 1))) (can_rowsv [0] (k0_sel hk rfl) rfl (.cons rfl rqq .nil) tmq) (by omega) ⟨q + 1, m, M, f, by omega, by omega, by omega, hM, hsn.1 h5, hf, fun a ha => hg a (by omega), rfl, rfl⟩
        · have hT : D.take (k + q) = D := by rw [show k + q = n by omega, ← hD]; simp
          rw [hT] at hC
          repeat' (first | refine gg ?_ | exact trivial | with_reducible refine wA ?_ ?_ | refine Y2.mk ?_ ?_ | refine gh ?_ | exact qq | fail)
          show POps _ _ _ _ (_ :: _) _ _
          refine pop_clear (G := G.toPg) hu_int hz_int rfl rfl rfl rfl rfl rfl rfl rfl ?_
          repeat' (first | refine gg ?_ | exact trivial | with_reducible refine wA ?_ ?_ | refine Y2.mk ?_ ?_ | refine gh ?_ | exact qq | fail)
          · exact ⟨trivial, trivial, by omega, by omega, by omega⟩
          refine xdone ?_
          refine kretr (st' := ⟨[(2, .lsl 0 0 m)], [iRow m (lF 0 M)]⟩) (can_rowsv [0] (k0_sel hk rfl) rfl (.cons rfl (i_eq (by show m ≤ n; omega) fun a ha => ?_) .nil) (by exact ⟨PEq.of (by show PV.lsl 0 0 _ = _; congr 1), trivial⟩)) rfl ⟨trivial, trivial⟩ rfl ⟨M, hC, by rw [hM]; rfl, by rw [hM]⟩
          show clrF _ _ (tI f) a 0 = _
          unfold clrF
          rw [if_neg (by omega)]
          · show vi (f a) = _
            rw [hf a ha]
          · exact ⟨trivial, trivial, by omega, by omega, by omega⟩
      · intro h
        have h := of_decide_eq_false h
        repeat' (first | refine gg ?_ | exact trivial | with_reducible refine wA ?_ ?_ | refine Y2.mk ?_ ?_ | refine gh ?_ | exact qq | fail)
        rw [show IntKind.i64.wrap ((k : Int) + 1) = ((k + 1 : Nat) : Int) from w64 (by omega) (by omega)]
        exact kloop_next (st' := ⟨[(0, .lsl 0 0 n), (3, vi ((k + 1 : Nat) : Int))], [iRow n (lF 0 D)]⟩) (n - (k + 1)) (can_rowsv [0] (k0_sel hk rfl) rfl (by (repeat (refine SelV.cons rfl rqq ?_)); exact SelV.nil) tmq) (by omega) ⟨k + 1, by omega, by omega, fun a h1 h2 => by
          by_cases e : a = k
          · subst e; exact h
          · exact hne a h1 (by omega), rfl, rfl⟩
    · have hkn : k = n := by omega
      subst hkn
      repeat' (first | refine gg ?_ | exact trivial | with_reducible refine wA ?_ ?_ | refine Y2.mk ?_ ?_ | refine gh ?_ | exact qq | fail)
      refine xdone ?_
      have := cmpR_take hS (k := k) (by omega) hne
      rw [show D.take k = D by rw [← hD]; simp] at this
      exact kretr (st' := ⟨[(2, .lsl 0 0 k)], [iRow k (lF 0 D)]⟩) (can_rowsv [0] (k0_sel hk rfl) rfl (by (repeat (refine SelV.cons rfl rqq ?_)); exact SelV.nil) tmq) rfl ⟨trivial, trivial⟩ rfl ⟨D, this, by rw [hD]; rfl, by rw [hD]⟩
end Go.Proofs.YtcefhgomkehokaaGreat
namespace Go.Proofs.YtcefhgomkehokaaGreat
open Go.Sort Go.RowKit
def sortL (D : List Int) : List Int := D.mergeSort fun x y => decide (x ≤ y)
theorem sortL_perm (D : List Int) : (sortL D).Perm D := List.mergeSort_perm _ _
theorem sortL_len (D : List Int) : (sortL D).length = D.length := List.length_mergeSort _
theorem sortL_sorted (D : List Int) : (sortL D).Pairwise (· ≤ ·) := by
  refine (List.pairwise_mergeSort (fun a b c h1 h2 => ?_) (fun a b => ?_) D).imp fun h => by simpa using h
  · simp at h1 h2 ⊢; omega
  · simp; omega
structure SortC (P : Program) (f : FuncId) : Prop where
  ok : CallOk P f
  run : ∀ (blk off cap : Nat) (zs : List Int) (w : World), Holds (Value.int .i64) w blk off zs.toArray → blk < w.heap.size → zs.length < 4611686018427387904 →
    Calls P f #[.slice (some ⟨blk, off, none⟩) zs.length cap] w fun e w' => e = .returned (.tuple #[]) ∧ ∃ n os, w' = grow (putRow (Value.int .i64) (Sort.ahead w n) blk off (zs.mergeSort fun x y => decide (x ≤ y)).toArray) os
  nil : ∀ (p : Option Addr) (cap : Nat) (w : World), Calls P f #[.slice p 0 cap] w fun e w' => e = .returned (.tuple #[]) ∧ w' = w
section
variable {G : Pg} {N : Nat} {Γ : Fr} {st : PSt} {K : Exit → PSt → Prop} {ops : Array Oper} {o : Oper} {rest : List Oper} {d l : Nat} {x y : Operand} {f : FuncId} {tys : Array TypeId} {c : Nat → PV} {n : Nat} {D : List Int} {m' : List Row}
theorem pop_sort (C : SortC G.P f) (hg : o.guard = none) (hd : o.dst = some d) (hN : Nat.blt d N = true) (ho : o.op = .call ⟨.value x, #[y], tys⟩) (hx : st.ev x = .clo f 0 c) (hy : st.ev y = .lsl l 0 n) (hD : D.length = n) (hn : n < 4611686018427387904) (hr : rowAt st.mem l = some (iRow n (lF 0 D)))
    (hm : setM st.mem l (iRow n (lF 0 (sortL D))) some = some m') (h : POps G N Γ ops rest (PSt.put ⟨st.tm, m'⟩ d (.tup 0 (nthP []))) K) : POps G N Γ ops (o :: rest) st K := .mk fun ρ I a w hrel => by
  have hw : Region.wanted o (yielded ops a.tmps) = true := by simp [Region.wanted, hg]
  simp only [wpList, hw, if_true]
  refine .inl ?_
  rw [rowAt_get] at hr
  rw [setM_eq] at hm
  simp only [Option.some.injEq] at hm
  subst hm
  have hxv := ev_rel hrel x
  rw [hx] at hxv
  obtain ⟨cap1, e1, e2, _⟩ := hxv
  have hcap1 : cap1 = #[] := by apply Array.eq_empty_of_size_eq_zero e2
  subst hcap1
  have hyv := ev_rel hrel y
  rw [hy] at hyv
  obtain ⟨hlk, hyv⟩ := hyv
  obtain ⟨hs0, cs, T, hcb, hcell⟩ := hrel.fr.m.row l _ hr trivial
  have hs1 : (ρ l).sz = 1 := hs0
  simp only [Oper.wp, call_run C.ok ho e1, Oper.upon_enter]
  have ea : (#[y].map a.eval ++ #[] : Array Value) = #[a.eval y] := by simp
  rw [ea, hd]
  have hsame : n = 0 → st.mem.set l (iRow n (lF 0 (sortL D))) = st.mem := fun h0 => by
    subst h0
    have : D = [] := List.length_eq_zero_iff.1 hD
    subst this
    have e : sortL [] = [] := List.length_eq_zero_iff.1 (sortL_len [])
    rw [e]
    apply List.ext_getElem?
    intro q
    by_cases hq : q = l
    · subst hq; rw [List.getElem?_set_self (by exact lt_get hr), hr]
    · rw [List.getElem?_set_ne (Ne.symm hq)]
  have fin0 : n = 0 → Rel N Γ ⟨st.tm, st.mem.set l (iRow n (lF 0 (sortL D)))⟩ ρ I a w := fun h0 => by rw [hsame h0]; exact hrel
  rcases hyv with ⟨rfl, ad, hv⟩ | ⟨cap, hcap, hv, cs2, T2, fz2, hcb2, hsz2⟩
  · rw [hv]
    refine (C.nil ad 0 w).mono ?_
    rintro e w' ⟨rfl, rfl⟩
    exact h.go ρ I _ _ ((fin0 rfl).put (by rwa [Nat.blt_eq] at hN) ⟨_, rfl, rfl, fun i hi => by omega⟩)
  · rw [hv]
    by_cases h0 : n = 0
    · subst h0
      refine (C.nil _ cap w).mono ?_
      rintro e w' ⟨rfl, rfl⟩
      exact h.go ρ I _ _ ((fin0 rfl).put (by rwa [Nat.blt_eq] at hN) ⟨_, rfl, rfl, fun i hi => by omega⟩)
    · have hcellv : ∀ q, q < n → cs[(ρ l).o + q]? = some (.int .i64 (lF 0 D q)) := fun q hq => by
        obtain ⟨u, g1, g2, g3⟩ := hcell q hq 0 Nat.zero_lt_one
        have g1 : cs[(ρ l).o + q * 1 + 0]? = some u := g1
        rw [Nat.mul_one, Nat.add_zero] at g1
        have g3 : u = .int .i64 (lF 0 D q) := g3
        rw [g1, g3]
      have hbl : (ρ l).b < w.heap.size := (Array.getElem?_eq_some_iff.1 hcb).1
      have hH : Holds (Value.int .i64) w (ρ l).b ((ρ l).o + 0 * (ρ l).sz) D.toArray := fun j hj => by
        have hj : j < D.length := by simpa using hj
        refine ⟨?_, by simp [World.frozen?, hcb]⟩
        have := hcellv j (by omega)
        simp only [World.cell?, hcb]
        rw [Nat.zero_mul, Nat.add_zero, this]
        unfold lF
        simp [List.getD_eq_getElem?_getD, List.getElem?_eq_getElem hj, hj]
      have hC := C.run (ρ l).b ((ρ l).o + 0 * (ρ l).sz) cap D w hH hbl (by omega)
      rw [hD] at hC
      refine hC.mono ?_
      rintro e w' ⟨rfl, dn, os, rfl⟩
      have hoff : (ρ l).o + 0 * (ρ l).sz = (ρ l).o := by omega
      rw [hoff]
      obtain ⟨S, hS⟩ : ∃ S, S = sortL D := ⟨_, rfl⟩
      have hSl : S.length = n := by rw [hS, sortL_len, hD]
      have hgo : (D.mergeSort fun x y => decide (x ≤ y)) = S := hS.symm
      rw [hgo]
      rw [← hS] at h
      have hb1 : (putRow (Value.int .i64) (Sort.ahead w dn) (ρ l).b (ρ l).o S.toArray).heap[(ρ l).b]? = some (.cells (putCells (Value.int .i64) (ρ l).o S.toArray cs) T (0, 0)) := by
        simp [putRow, mapBlock, Sort.ahead, Array.getElem?_modify, hcb, onCells]
      have hother : ∀ b, b ≠ (ρ l).b → (putRow (Value.int .i64) (Sort.ahead w dn) (ρ l).b (ρ l).o S.toArray).heap[b]? = w.heap[b]? := fun b hb => by
        simp [putRow, mapBlock, Sort.ahead, Array.getElem?_modify, Ne.symm hb]
      have hset := hrel.setRow hr trivial (iRow n (lF 0 S)) rfl rfl hcb hb1 (by simp [putCells]) hother rfl rfl rfl (by simp [putRow, mapBlock, Sort.ahead]) (fun q hq j hj => by
        have hq : q < n := hq
        have hj : j < 1 := hj
        obtain rfl : j = 0 := by omega
        have hlt : (ρ l).o + q < cs.size := by
          have := hcellv q hq
          exact (Array.getElem?_eq_some_iff.1 this).1
        refine ⟨.int .i64 (lF 0 S q), ?_, rfl, rfl⟩
        show (putCells (Value.int .i64) (ρ l).o S.toArray cs)[(ρ l).o + q * 1 + 0]? = _
        rw [Nat.mul_one, Nat.add_zero]
        unfold lF
        simp only [putCells, Array.getElem?_mapIdx, Array.getElem?_eq_getElem hlt, Option.map_some]
        rw [if_pos ⟨by omega, by simp; omega⟩]
        simp [List.getD_eq_getElem?_getD, show q < S.length by omega])
      have hx2 : Ext (putRow (Value.int .i64) (Sort.ahead w dn) (ρ l).b (ρ l).o S.toArray) (grow (putRow (Value.int .i64) (Sort.ahead w dn) (ρ l).b (ρ l).o S.toArray) os) :=
        ⟨rfl, rfl, rfl, by simp [grow], fun b hb => Array.getElem?_append_left hb⟩
      exact h.go ρ I _ _ ((hset.ext hx2 (I' := I) (fun _ h => h) (fun _ h => .inl h)).put (by rwa [Nat.blt_eq] at hN) ⟨_, rfl, rfl, fun i hi => by omega⟩)
end
end Go.Proofs.YtcefhgomkehokaaGreat
namespace Go.Proofs.YtcefhgomkehokaaGreat
open Go.MapKept Go.RowKit Go.Shelf Go.Sort
def sortA_ren : Go.Shelf.Ren := ⟨fun | 5 => 70 | 8 => 82 | 7 => 81 | 19 => 112 | 20 => 113 | 10 => 103 | 11 => 104 | 12 => 105 | 13 => 106 | 14 => 107 | 15 => 108 | 16 => 109 | 17 => 110 | 18 => 111 | 30 => 124 | 31 => 125 | 32 => 126 | 33 => 127 | 34 => 128 | 35 => 129 | 40 => 138 | n => n, fun | 23 => 22 | 25 => 3 | 3 => 3 | 32 => 111 | 22 => 22 | 0 => 0 | 44 => 130 | 46 => 132 | 4 => 4 | 36 => 123 | 35 => 122 | 41 => 98 | 5 => 5 | 9 => 9 | 53 => 135 | 57 => 139 | 63 => 142 | 64 => 143 | n => n, fun | n => n⟩
theorem sortA : SlLaysM.n5 Tryz.prog sortA_ren where
  mixed := by kernel_rfl
  f5 := ⟨ "slices.Sort[[]int,int]", by decide, Tryz.func70.trans (congrArg some (by kernel_rfl))⟩
  f7 := ⟨ "slices.pdqsortOrdered[int]", by decide, Tryz.func81.trans (congrArg some (by kernel_rfl))⟩
  f8 := Tryz.func82.trans (congrArg some (by kernel_rfl))
  f10 := ⟨ "slices.insertionSortOrdered[int]", by decide, Tryz.func103.trans (congrArg some (by kernel_rfl))⟩
  f11 := ⟨ "slices.heapSortOrdered[int]", by decide, Tryz.func104.trans (congrArg some (by kernel_rfl))⟩
  f12 := ⟨ "slices.breakPatternsOrdered[int]", by decide, Tryz.func105.trans (congrArg some (by kernel_rfl))⟩
  f13 := ⟨ "slices.choosePivotOrdered[int]", by decide, Tryz.func106.trans (congrArg some (by kernel_rfl))⟩
  f14 := ⟨ "slices.reverseRangeOrdered[int]", by decide, Tryz.func107.trans (congrArg some (by kernel_rfl))⟩
  f15 := ⟨ "slices.partialInsertionSortOrdered[int]", by decide, Tryz.func108.trans (congrArg some (by kernel_rfl))⟩
  f16 := ⟨ "cmp.Less[int]", by decide, Tryz.func109.trans (congrArg some (by kernel_rfl))⟩
  f17 := ⟨ "slices.partitionEqualOrdered[int]", by decide, Tryz.func110.trans (congrArg some (by kernel_rfl))⟩
  f18 := ⟨ "slices.partitionOrdered[int]", by decide, Tryz.func111.trans (congrArg some (by kernel_rfl))⟩
  f19 := Tryz.func112.trans (congrArg some (by kernel_rfl))
  f20 := Tryz.func113.trans (congrArg some (by kernel_rfl))
  f30 := ⟨ "slices.siftDownOrdered[int]", by decide, Tryz.func124.trans (congrArg some (by kernel_rfl))⟩
  f31 := Tryz.func125.trans (congrArg some (by kernel_rfl))
  f32 := Tryz.func126.trans (congrArg some (by kernel_rfl))
  f33 := ⟨ "slices.medianAdjacentOrdered[int]", by decide, Tryz.func127.trans (congrArg some (by kernel_rfl))⟩
  f34 := ⟨ "slices.medianOrdered[int]", by decide, Tryz.func128.trans (congrArg some (by kernel_rfl))⟩
  f35 := ⟨ "cmp.isNaN[int]", by decide, Tryz.func129.trans (congrArg some (by kernel_rfl))⟩
  f40 := ⟨ "slices.order2Ordered[int]", by decide, Tryz.func138.trans (congrArg some (by kernel_rfl))⟩
  t0 := Tryz.underlying0
  a0 := Tryz.isAgg0
  z0 := Tryz.sizeOf0
  v0 := Tryz.zeroValue0
  t3 := Tryz.underlying3
  a3 := Tryz.isAgg3
  z3 := Tryz.sizeOf3
  v3 := Tryz.zeroValue3
  t4 := Tryz.underlying4
  a4 := Tryz.isAgg4
  z4 := Tryz.sizeOf4
  v4 := Tryz.zeroValue4
  t5 := Tryz.underlying5
  a5 := Tryz.isAgg5
  z5 := Tryz.sizeOf5
  v5 := Tryz.zeroValue5
  t9 := Tryz.underlying9
  a9 := Tryz.isAgg9
  z9 := Tryz.sizeOf9
  v9 := Tryz.zeroValue9
  t22 := Tryz.underlying22
  a22 := Tryz.isAgg22
  z22 := Tryz.sizeOf22
  v22 := Tryz.zeroValue22
  t23 := Tryz.underlying22
  a23 := Tryz.isAgg22
  z23 := Tryz.sizeOf22
  v23 := Tryz.zeroValue22
  t25 := Tryz.underlying3
  a25 := Tryz.isAgg3
  z25 := Tryz.sizeOf3
  v25 := Tryz.zeroValue3
  t32 := Tryz.underlying111
  a32 := Tryz.isAgg111
  z32 := Tryz.sizeOf111
  v32 := Tryz.zeroValue111
  t35 := Tryz.underlying122
  a35 := Tryz.isAgg122
  z35 := Tryz.sizeOf122
  v35 := Tryz.zeroValue122
  t36 := Tryz.underlying123
  a36 := Tryz.isAgg123
  z36 := Tryz.sizeOf123
  v36 := Tryz.zeroValue123
  t41 := Tryz.underlying98
  a41 := Tryz.isAgg98
  z41 := Tryz.sizeOf98
  v41 := Tryz.zeroValue98
  t44 := Tryz.underlying130
  a44 := Tryz.isAgg130
  z44 := Tryz.sizeOf130
  v44 := Tryz.zeroValue130
  t46 := Tryz.underlying132
  a46 := Tryz.isAgg132
  z46 := Tryz.sizeOf132
  v46 := Tryz.zeroValue132
  t53 := Tryz.underlying135
  a53 := Tryz.isAgg135
  z53 := Tryz.sizeOf135
  v53 := Tryz.zeroValue135
  t57 := Tryz.underlying139
  a57 := Tryz.isAgg139
  z57 := Tryz.sizeOf139
  v57 := Tryz.zeroValue139
  t63 := Tryz.underlying142
  a63 := Tryz.isAgg142
  z63 := Tryz.sizeOf142
  v63 := Tryz.zeroValue142
  t64 := Tryz.underlying143
  a64 := Tryz.isAgg143
  z64 := Tryz.sizeOf143
  v64 := Tryz.zeroValue143
theorem sortC : SortC G.P 70 where
  ok := callOk_of Tryz.func70 rfl rfl
  run := fun blk off cap zs w h1 h2 h3 => AnyM.slices_Sort_int sortA blk off cap zs w h1 h2 h3
  nil := fun p cap w => AnyM.slices_Sort_int_none sortA p cap w
end Go.Proofs.YtcefhgomkehokaaGreat
namespace Go.Proofs.YtcefhgomkehokaaGreat
def inpB (l : List Df) (s : ByteArray) (i : Nat) : Bool := decide ((lF dD l i).kind = 1 ∧ (lF dD l i).nm.toList = s.toList)
def fitB (l : List Df) (e : Ex) (x : Int) : Bool := decide ((e.op = 3 ∧ comp (lF dD l x.toNat) = true ∨ e.op = 4 ∧ (lF dD l x.toNat).kind = 2) ∧ (lF dD l x.toNat).nm.toList = e.nm.toList)
def meanI (l : List Df) (act : List Int) (e : Ex) : Option Int := match (if e.op = 3 then (List.range l.length).find? (inpB l e.nm) else none) with
  | some i => some i
  | none => act.find? (fitB l e)
abbrev vMn (o : Option Int) : PV := .tup 2 (nthP [vi (o.getD 0), vb o.isSome])
theorem find_rng {p : Nat → Bool} {n i : Nat} (hi : i < n) (h : ∀ j, j < i → p j = false) (hp : p i = true) : (List.range n).find? p = some i := by
  rw [List.find?_range_eq_some]
  exact ⟨hp, List.mem_range.2 hi, fun j hj => by rw [h j hj]; rfl⟩
theorem find_rno {p : Nat → Bool} {n : Nat} (h : ∀ j, j < n → p j = false) : (List.range n).find? p = none := by
  rw [List.find?_eq_none]
  intro j hj
  rw [h j (List.mem_range.1 hj)]; decide
theorem find_lF {p : Int → Bool} {l : List Int} {i : Nat} (hi : i < l.length) (h : ∀ j, j < i → p (lF 0 l j) = false) (hp : p (lF 0 l i) = true) : l.find? p = some (lF 0 l i) := by
  rw [List.find?_eq_some_iff_getElem]
  refine ⟨hp, i, hi, (lF_get' hi).symm, fun j hj => ?_⟩
  rw [← lF_get' (by omega), h j hj]; rfl
theorem find_lno {p : Int → Bool} {l : List Int} (h : ∀ j, j < l.length → p (lF 0 l j) = false) : l.find? p = none := by
  rw [List.find?_eq_none]
  intro x hx
  obtain ⟨j, hj, rfl⟩ := List.getElem_of_mem hx
  rw [← lF_get' hj, h j hj]; decide
set_option maxHeartbeats 8000000 in
theorem meaning_c (nm : ByteArray) (l : List Df) (act : List Int) (e : Ex) (hl : l.length ≤ 1000000) (ha : act.length ≤ 1000000) (hin : ∀ x, x ∈ act → 0 ≤ x ∧ x < l.length) : PureC G.P 69 [vA nm l, sV act, vX e] (fun r => r = vMn (meanI l act e)) := by
  refine pure_of (G := G.toPg) (fn := Tryz.f69) Tryz.func69 rfl rfl rfl ?_; intro Γ hk
  repeat' (first | refine gg ?_ | exact trivial | with_reducible refine wA ?_ ?_ | refine Y2.mk ?_ ?_ | refine gh ?_ | exact qq | fail)
  refine pcut (fun st => (e.op = 3 → (List.range l.length).find? (inpB l e.nm) = none) ∧ st = ⟨[(1, sV act), (3, .ptr 0 0 0), (5, .ptr 1 0 0)], [rA1 nm l, rXE e]⟩) ?_ ?_
  · refine pcond (b := decide (e.op = 3)) (eqB (bqd _ _)) ?_ ?_ <;> intro h3
    · have h3 := of_decide_eq_true h3
      repeat' (first | refine gg ?_ | exact trivial | with_reducible refine wA ?_ ?_ | refine Y2.mk ?_ ?_ | refine gh ?_ | exact qq | fail)
      refine pcan (st' := ⟨[(1, sV act), (3, .ptr 0 0 0), (5, .ptr 1 0 0), (18, vDs l), (19, vi l.length), (20, vi ((0 : Nat) : Int))], [rA1 nm l, rXE e]⟩) (can_rowsv [0, 1] (k0_sel hk rfl) rfl (.cons rfl (RowEq.cl (rA1_cl _ _)) (.cons rfl (RowEq.cl (rXE_cl _)) .nil)) tmq) ?_
      refine ploop (fun q st => ∃ i : Nat, i ≤ l.length ∧ (∀ j, j < i → inpB l e.nm j = false) ∧ q = l.length - i ∧ st = ⟨[(1, sV act), (3, .ptr 0 0 0), (5, .ptr 1 0 0), (18, vDs l), (19, vi l.length), (20, vi i)], [rA1 nm l, rXE e]⟩) l.length ⟨0, by omega, fun j hj => by omega, by omega, rfl⟩ ?_
      rintro _ _ ⟨i, hi, hv, rfl, rfl⟩
      have hw1 : IntKind.i64.wrap ((i : Int) + 1) = ((i + 1 : Nat) : Int) := w64 (by omega) (by omega)
      repeat' (first | refine gg ?_ | exact trivial | with_reducible refine wA ?_ ?_ | refine Y2.mk ?_ ?_ | refine gh ?_ | exact qq | fail)
      refine pcond rfl ?_ ?_ <;> intro hc
      · have hc : i < l.length := by have := of_decide_eq_true hc; omega
        repeat' (first | refine gg ?_ | exact trivial | with_reducible refine wA ?_ ?_ | refine Y2.mk ?_ ?_ | refine gh ?_ | exact qq | fail)
        refine pcond (b := inpB l e.nm i) ?_ ?_ ?_
        · refine eqB ?_
          show (bif ((lF dD l i).kind == 1) then ((lF dD l i).nm.toList == e.nm.toList) else false) = _
          unfold inpB
          by_cases e1 : (lF dD l i).kind = 1 <;> by_cases e2 : (lF dD l i).nm.toList = e.nm.toList <;> simp [e1, e2]
        · intro h1
          repeat' (first | refine gg ?_ | exact trivial | with_reducible refine wA ?_ ?_ | refine Y2.mk ?_ ?_ | refine gh ?_ | exact qq | fail)
          refine kretv rfl ⟨trivial, trivial, trivial⟩ rfl ?_
          unfold meanI
          rw [if_pos h3, find_rng hc hv h1]; rfl
        · intro h1
          repeat' (first | refine gg ?_ | exact trivial | with_reducible refine wA ?_ ?_ | refine Y2.mk ?_ ?_ | refine gh ?_ | exact qq | fail)
          rw [hw1]
          exact kloop_next (st' := ⟨[(1, sV act), (3, .ptr 0 0 0), (5, .ptr 1 0 0), (18, vDs l), (19, vi l.length), (20, vi ((i + 1 : Nat) : Int))], [rA1 nm l, rXE e]⟩) (l.length - (i + 1)) (can_rowsv [0, 1] (k0_sel hk rfl) rfl (.cons rfl (RowEq.cl (rA1_cl _ _)) (.cons rfl (RowEq.cl (rXE_cl _)) .nil)) tmq) (by omega) ⟨i + 1, by omega, fun j hj => by
            by_cases e : j = i
            · subst e; exact h1
            · exact hv j (by omega), rfl, rfl⟩
      · have hil : i = l.length := by have := of_decide_eq_false hc; omega
        subst hil
        repeat' (first | refine gg ?_ | exact trivial | with_reducible refine wA ?_ ?_ | refine Y2.mk ?_ ?_ | refine gh ?_ | exact qq | fail)
        exact kcut (st' := ⟨[(1, sV act), (3, .ptr 0 0 0), (5, .ptr 1 0 0)], [rA1 nm l, rXE e]⟩) (can_rowsv [0, 1] (k0_sel hk rfl) rfl (.cons rfl (RowEq.cl (rA1_cl _ _)) (.cons rfl (RowEq.cl (rXE_cl _)) .nil)) tmq) ⟨fun _ => find_rno hv, rfl⟩
    · have h3 := of_decide_eq_false h3
      repeat' (first | refine gg ?_ | exact trivial | with_reducible refine wA ?_ ?_ | refine Y2.mk ?_ ?_ | refine gh ?_ | exact qq | fail)
      exact kcut (st' := ⟨[(1, sV act), (3, .ptr 0 0 0), (5, .ptr 1 0 0)], [rA1 nm l, rXE e]⟩) (can_rowsv [0, 1] (k0_sel hk rfl) rfl (.cons rfl (RowEq.cl (rA1_cl _ _)) (.cons rfl (RowEq.cl (rXE_cl _)) .nil)) tmq) ⟨fun h => absurd h h3, rfl⟩
  rintro _ ⟨hno, rfl⟩
  have hM : meanI l act e = act.find? (fitB l e) := by
    unfold meanI
    by_cases h3 : e.op = 3
    · rw [if_pos h3, hno h3]
    · rw [if_neg h3]
  rw [hM]
  repeat' (first | refine gg ?_ | exact trivial | with_reducible refine wA ?_ ?_ | refine Y2.mk ?_ ?_ | refine gh ?_ | exact qq | fail)
  refine pcan (st' := ⟨[(3, .ptr 0 0 0), (5, .ptr 1 0 0), (37, sV act), (38, vi act.length), (39, vi ((0 : Nat) : Int))], [rA1 nm l, rXE e]⟩) (can_rowsv [0, 1] (k0_sel hk rfl) rfl (.cons rfl (RowEq.cl (rA1_cl _ _)) (.cons rfl (RowEq.cl (rXE_cl _)) .nil)) tmq) ?_
  refine ploop (fun q st => ∃ i : Nat, i ≤ act.length ∧ (∀ j, j < i → fitB l e (lF 0 act j) = false) ∧ q = act.length - i ∧ st = ⟨[(3, .ptr 0 0 0), (5, .ptr 1 0 0), (37, sV act), (38, vi act.length), (39, vi i)], [rA1 nm l, rXE e]⟩) act.length ⟨0, by omega, fun j hj => by omega, by omega, rfl⟩ ?_
  rintro _ _ ⟨i, hi, hv, rfl, rfl⟩
  have hw1 : IntKind.i64.wrap ((i : Int) + 1) = ((i + 1 : Nat) : Int) := w64 (by omega) (by omega)
  repeat' (first | refine gg ?_ | exact trivial | with_reducible refine wA ?_ ?_ | refine Y2.mk ?_ ?_ | refine gh ?_ | exact qq | fail)
  refine pcond rfl ?_ ?_ <;> intro hc
  · have hc : i < act.length := by have := of_decide_eq_true hc; omega
    have hx : 0 ≤ lF 0 act i ∧ lF 0 act i < l.length := hin _ (by rw [lF_get' hc]; exact List.getElem_mem hc)
    have cc := computed_c (lF dD l (lF 0 act i).toNat)
    have hx3 : (lF 0 act i).toNat < l.length := by omega
    repeat' (first | refine gg ?_ | exact trivial | with_reducible refine wA ?_ ?_ | refine Y2.mk ?_ ?_ | exact ⟨hx.1, hx.2⟩ | exact hx3 | refine zz cc ?_ | refine gh ?_ | exact qq | fail)
    refine pcond (b := fitB l e (lF 0 act i)) ?_ ?_ ?_
    · refine eqB ?_
      show (bif bif (bif (e.op == 3) then comp (lF dD l (lF 0 act i).toNat) else false) then true else (bif (e.op == 4) then ((lF dD l (lF 0 act i).toNat).kind == 2) else false) then ((lF dD l (lF 0 act i).toNat).nm.toList == e.nm.toList) else false) = _
      unfold fitB
      by_cases e1 : e.op = 3
      · cases hcm : comp (lF dD l (lF 0 act i).toNat) <;> by_cases e3 : (lF dD l (lF 0 act i).toNat).nm.toList = e.nm.toList <;> simp [e1, e3]
      · by_cases e2 : e.op = 4 <;> by_cases e4 : (lF dD l (lF 0 act i).toNat).kind = 2 <;> by_cases e3 : (lF dD l (lF 0 act i).toNat).nm.toList = e.nm.toList <;> simp [e1, e2, e3, e4]
    · intro h1
      repeat' (first | refine gg ?_ | exact trivial | with_reducible refine wA ?_ ?_ | refine Y2.mk ?_ ?_ | refine gh ?_ | exact qq | fail)
      refine kretv rfl ⟨trivial, trivial, trivial⟩ rfl ?_
      rw [find_lF hc hv h1]; rfl
    · intro h1
      repeat' (first | refine gg ?_ | exact trivial | with_reducible refine wA ?_ ?_ | refine Y2.mk ?_ ?_ | refine gh ?_ | exact qq | fail)
      rw [hw1]
      exact kloop_next (st' := ⟨[(3, .ptr 0 0 0), (5, .ptr 1 0 0), (37, sV act), (38, vi act.length), (39, vi ((i + 1 : Nat) : Int))], [rA1 nm l, rXE e]⟩) (act.length - (i + 1)) (can_rowsv [0, 1] (k0_sel hk rfl) rfl (.cons rfl (RowEq.cl (rA1_cl _ _)) (.cons rfl (RowEq.cl (rXE_cl _)) .nil)) tmq) (by omega) ⟨i + 1, by omega, fun j hj => by
        by_cases e : j = i
        · subst e; exact h1
        · exact hv j (by omega), rfl, rfl⟩
  · have hil : i = act.length := by have := of_decide_eq_false hc; omega
    subst hil
    repeat' (first | refine gg ?_ | exact trivial | with_reducible refine wA ?_ ?_ | refine Y2.mk ?_ ?_ | refine gh ?_ | exact qq | fail)
    refine kretv rfl ⟨trivial, trivial, trivial⟩ rfl ?_
    rw [find_lno hv]; rfl
/-! ### needs -/
theorem asc_uniq : ∀ {A B : List Int}, A.Pairwise (· < ·) → B.Pairwise (· < ·) → (∀ x, x ∈ A ↔ x ∈ B) → A = B
  | [], [], _, _, _ => rfl
  | [], b :: B, _, _, h => absurd ((h b).2 (List.mem_cons_self ..)) List.not_mem_nil
  | a :: A, [], _, _, h => absurd ((h a).1 (List.mem_cons_self ..)) List.not_mem_nil
  | a :: A, b :: B, hA, hB, h => by
    rw [List.pairwise_cons] at hA hB
    have e : a = b := by
      rcases List.mem_cons.1 ((h a).1 (List.mem_cons_self ..)) with e | h1
      · exact e
      · rcases List.mem_cons.1 ((h b).2 (List.mem_cons_self ..)) with e | h2
        · exact e.symm
        · have := hB.1 a h1; have := hA.1 b h2; omega
    subst e
    congr 1
    refine asc_uniq hA.2 hB.2 fun x => ⟨fun hx => ?_, fun hx => ?_⟩
    · rcases List.mem_cons.1 ((h x).1 (List.mem_cons_of_mem _ hx)) with e | h1
      · have := hA.1 x hx; omega
      · exact h1
    · rcases List.mem_cons.1 ((h x).2 (List.mem_cons_of_mem _ hx)) with e | h1
      · have := hB.1 x hx; omega
      · exact h1
theorem actN_asc (l : List Df) (day : Int) : ∀ n, (actN l day n).Pairwise (· < ·)
  | 0 => List.Pairwise.nil
  | n + 1 => by
    cases h : isAct l day n with
    | true =>
      rw [actN_y h, List.pairwise_append]
      refine ⟨actN_asc l day n, List.pairwise_singleton _ _, fun a ha b hb => ?_⟩
      obtain ⟨i, rfl, hi, _⟩ := actN_mem ha
      rw [List.mem_singleton.1 hb]; omega
    | false => rw [actN_n h]; exact actN_asc l day n
def needL (l : List Df) (act : List Int) (R : List Ex) : List Int := act.filter fun j => comp (lF dD l j.toNat) && decide (j ∈ R.filterMap (meanI l act))
def needS (l : List Df) (act : List Int) (i : Nat) : List Int × Int := if (refsE (lF dD l i).body).all (fun e => (meanI l act e).isSome) = true then (needL l act (refsE (lF dD l i).body), 0) else ([], 7)
def jsL (l : List Df) (act : List Int) (R : List Ex) : List Int := (R.filterMap (meanI l act)).filter fun j => comp (lF dD l j.toNat)
theorem jsL_snoc {l : List Df} {act : List Int} {R : List Ex} {e : Ex} {j : Int} (h : meanI l act e = some j) : jsL l act (R ++ [e]) = jsL l act R ++ if comp (lF dD l j.toNat) = true then [j] else [] := by
  unfold jsL
  rw [List.filterMap_append, List.filter_append]
  congr 1
  simp only [List.filterMap_cons, List.filterMap_nil, h, List.filter_cons, List.filter_nil]
theorem jsL_len (l : List Df) (act : List Int) (R : List Ex) : (jsL l act R).length ≤ R.length := Nat.le_trans (List.length_filter_le _ _) (List.length_filterMap_le _ _)
theorem meanI_mem {l : List Df} {act : List Int} {e : Ex} {j : Int} (h : meanI l act e = some j) : (0 ≤ j ∧ j < l.length ∧ (lF dD l j.toNat).kind = 1) ∨ j ∈ act := by
  unfold meanI at h
  split at h
  · rename_i i hi
    injection h with h
    subst h
    split at hi
    · have h1 := List.find?_some hi
      have h2 := List.mem_range.1 (List.mem_of_find?_eq_some hi)
      unfold inpB at h1
      exact .inl ⟨by omega, by omega, (of_decide_eq_true h1).1⟩
    · cases hi
  · exact .inr (List.mem_of_find?_eq_some h)
theorem need_mem {l : List Df} {act : List Int} {R : List Ex} (x : Int) : x ∈ jsL l act R ↔ x ∈ needL l act R := by
  unfold jsL needL
  rw [List.mem_filter, List.mem_filter]
  simp only [Bool.and_eq_true, decide_eq_true_eq]
  constructor
  · rintro ⟨h1, h2⟩
    obtain ⟨e, _, he⟩ := List.mem_filterMap.1 h1
    rcases meanI_mem he with ⟨_, _, h3⟩ | h3
    · unfold comp at h2
      have := of_decide_eq_true h2
      omega
    · exact ⟨h3, h2, h1⟩
  · rintro ⟨_, h2, h3⟩; exact ⟨h3, h2⟩
theorem need_uniq {l : List Df} {act : List Int} (ha : act.Pairwise (· < ·)) {R : List Ex} {M : List Int} (h : CmpR (sortL (jsL l act R)) M) : M = needL l act R :=
  asc_uniq h.srt (ha.filter _) fun x => by rw [h.mem, (sortL_perm _).mem_iff, need_mem]
section
variable {G : Pg} {N : Nat} {Γ : Fr} {st : PSt} {K : Exit → PSt → Prop} {ops : Array Oper} {o : Oper} {rest : List Oper} {d : Nat} {x y : Operand} {f : FuncId} {tys : Array TypeId} {c : Nat → PV}
theorem pop_sort0 (C : SortC G.P f) (hg : o.guard = none) (hd : o.dst = some d) (hN : Nat.blt d N = true) (ho : o.op = .call ⟨.value x, #[y], tys⟩) (hx : st.ev x = .clo f 0 c) (hy : st.ev y = .val (.slice none 0 0)) (h : POps G N Γ ops rest (st.put d (.tup 0 (nthP []))) K) : POps G N Γ ops (o :: rest) st K := .mk fun ρ I a w hrel => by
  have hw : Region.wanted o (yielded ops a.tmps) = true := by simp [Region.wanted, hg]
  simp only [wpList, hw, if_true]
  refine .inl ?_
  have hxv := ev_rel hrel x
  rw [hx] at hxv
  obtain ⟨cap1, e1, e2, _⟩ := hxv
  have hcap1 : cap1 = #[] := by apply Array.eq_empty_of_size_eq_zero e2
  subst hcap1
  have hyv := ev_rel hrel y
  rw [hy] at hyv
  have hyv : a.eval y = .slice none 0 0 := hyv
  simp only [Oper.wp, call_run C.ok ho e1, Oper.upon_enter]
  have ea : (#[y].map a.eval ++ #[] : Array Value) = #[a.eval y] := by simp
  rw [ea, hd, hyv]
  refine (C.nil none 0 w).mono ?_
  rintro e w' ⟨rfl, rfl⟩
  exact h.go ρ I _ _ (hrel.put (by rwa [Nat.blt_eq] at hN) ⟨#[], rfl, rfl, fun i hi => absurd hi (Nat.not_lt_zero i)⟩)
end
theorem compact0_c (f : Nat → Nat → PV) : PureC G.P 71 [.vsl 0 1 f] (fun r => r = .vsl 0 1 f) := by
  refine pure_of (G := G.toPg) (fn := Tryz.f71) Tryz.func71 rfl rfl rfl ?_; intro Γ hk
  repeat' (first | refine gg ?_ | exact trivial | with_reducible refine wA ?_ ?_ | refine Y2.mk ?_ ?_ | refine gh ?_ | exact qq | fail)
  exact kretv rfl ⟨trivial, trivial⟩ rfl rfl
theorem vi_row {τ : Nat → Option Nat} {n : Nat} {g : Nat → Int} : RowEq (Row.ren τ (vRow c1 1 (n + 1) g)) (iRow (n + 1) g) := ⟨rfl, rfl, Nat.le_refl _, fun i hi j hj => by
  have hj : j < 1 := hj
  obtain rfl : j = 0 := by omega
  exact PEq.refl _⟩
def BodyOk (d : Df) : Prop := validS 32 d.body = true ∧ d.body.w ≤ 900000
set_option maxHeartbeats 8000000 in
theorem needs_c (nm : ByteArray) (l : List Df) (act : List Int) (i : Nat) (hi : i < l.length) (hl : l.length ≤ 1000000) (ha : act.length ≤ 1000000) (hin : ∀ x, x ∈ act → 0 ≤ x ∧ x < l.length) (hasc : act.Pairwise (· < ·)) (hb : BodyOk (lF dD l i)) : PureC G.P 43 [vA nm l, sV act, vi i] (fun r => r = .tup 2 (nthP [sV (needS l act i).1, vi (needS l act i).2])) := by
  have rc := (refs_c 32 _ hb.1 hb.2).nil
  have rl := refs_len (lF dD l i).body
  have hbw := hb.2
  have hX : needS l act i = if (refsE (lF dD l i).body).all (fun e => (meanI l act e).isSome) = true then (needL l act (refsE (lF dD l i).body), 0) else ([], 7) := rfl
  rw [hX]
  clear hX
  refine pure_of (G := G.toPg) (fn := Tryz.f43) Tryz.func43 rfl rfl rfl ?_; intro Γ hk
  repeat' (first | refine gg ?_ | exact trivial | with_reducible refine wA ?_ ?_ | refine Y2.mk ?_ ?_ | exact (show ((i : Nat) : Int).toNat < l.length by omega) | refine gh ?_ | exact qq | fail)
  generalize hR : refsE (lF dD l i).body = R at *
  refine pop_rowsc [] rfl rfl rfl rfl rfl rfl .nil rc (by exact ⟨PEq.refl _, PEq.cl _ (fun i _ => clL_nth _ i (cX_cl _)), trivial⟩) ?_
  rintro r rows ⟨k, hk2, rfl, rfl⟩
  rcases k with _ | k
  all_goals
    refine ⟨_, _, rfl, ⟨v_cl cX_cl _ _ _, trivial⟩, rfl, ?_⟩
    repeat' (first | refine gg ?_ | exact trivial | with_reducible refine wA ?_ ?_ | refine Y2.mk ?_ ?_ | refine gh ?_ | exact qq | fail)
    refine pcan (can_virt (vRow c1 1 0 (lF 0 [])) rfl) ?_
  · --
    refine pcan ((can_frz [1] (by intro l hl; rw [hk]; exact Nat.zero_le _) rfl (tm := [(1, sV act), (3, .ptr 0 0 0), (8, slP 0 2), (19, .vsl 0 10 (tF cX (lF .nil R))), (20, vi ((0 : Nat) : Int)), (21, vi ((0 : Nat) : Int))]) (by exact ⟨.inl rfl, .inl rfl, .inl rfl, .inr (arg_v (n := 0) (l := 1) cX_cl rfl (List.Mem.head _)), .inl rfl, .inl rfl, trivial⟩)).trans (can_rowsv [0, 2] (tm := [(1, sV act), (3, .ptr 0 0 0), (8, slP 0 1), (19, .vsl 0 10 (tF cX (lF .nil R))), (20, vi ((0 : Nat) : Int)), (21, vi ((0 : Nat) : Int))]) (rows := [rA1 nm l, vRow c1 1 0 (lF 0 (jsL l act (R.take 0)))]) (k0_sel hk rfl) rfl (.cons rfl (RowEq.cl (rA1_cl _ _)) (.cons rfl (RowEq.cl (v_cl c1_cl _ _ _)) .nil)) tmq)) ?_
    refine ploopN 1 ?_
    have hm : (jsL l act R).length = 0 := by have := jsL_len l act R; omega
    have hall : R.all (fun e => (meanI l act e).isSome) = true := by
      rw [List.all_eq_true]
      intro e he
      obtain ⟨j, hj, rfl⟩ := List.getElem_of_mem he
      omega
    rw [if_pos hall]
    have hJ0 : jsL l act R = [] := List.length_eq_zero_iff.1 hm
    have hN0 : needL l act R = [] := by
      rw [List.eq_nil_iff_forall_not_mem]
      intro x hx
      rw [← need_mem, hJ0] at hx
      exact List.not_mem_nil hx
    repeat' (first | refine gg ?_ | exact trivial | with_reducible refine wA ?_ ?_ | refine Y2.mk ?_ ?_ | refine gh ?_ | exact qq | fail)
    refine pop_sort0 sortC rfl rfl rfl rfl rfl rfl ?_
    repeat' (first | refine gg ?_ | exact trivial | with_reducible refine wA ?_ ?_ | refine Y2.mk ?_ ?_ | refine gh ?_ | exact qq | fail)
    refine pop_callc [] rfl rfl rfl rfl rfl rfl (fun _ h => by cases h) (compact0_c (tI (lF 0 []))) ⟨argNil, trivial⟩ ?_
    rintro _ rfl
    repeat' (first | refine gg ?_ | exact trivial | with_reducible refine wA ?_ ?_ | refine Y2.mk ?_ ?_ | refine gh ?_ | exact qq | fail)
    refine kretv rfl ⟨trivial, trivial, trivial⟩ rfl ?_
    rw [hN0]; rfl
  · --
    refine pcan ((can_frz [1] (by intro l hl; rw [hk]; exact Nat.zero_le _) rfl (tm := [(1, sV act), (3, .ptr 0 0 0), (8, slP 0 2), (19, .vsl (k + 1) 10 (tF cX (lF .nil R))), (20, vi (((k + 1) : Nat) : Int)), (21, vi ((0 : Nat) : Int))]) (by exact ⟨.inl rfl, .inl rfl, .inl rfl, .inr (arg_v (n := (k + 1)) (l := 1) cX_cl rfl (List.Mem.head _)), .inl rfl, .inl rfl, trivial⟩)).trans (can_rowsv [0, 2] (tm := [(1, sV act), (3, .ptr 0 0 0), (8, slP 0 1), (19, .vsl (k + 1) 10 (tF cX (lF .nil R))), (20, vi (((k + 1) : Nat) : Int)), (21, vi ((0 : Nat) : Int))]) (rows := [rA1 nm l, vRow c1 1 0 (lF 0 (jsL l act (R.take 0)))]) (k0_sel hk rfl) rfl (.cons rfl (RowEq.cl (rA1_cl _ _)) (.cons rfl (RowEq.cl (v_cl c1_cl _ _ _)) .nil)) tmq)) ?_
    refine ploop (fun q st => ∃ i m : Nat, i ≤ (k + 1) ∧ (∀ j, j < i → (meanI l act (lF .nil R j)).isSome = true) ∧ (jsL l act (R.take i)).length = m ∧ q = (k + 1) - i ∧ st = ⟨[(1, sV act), (3, .ptr 0 0 0), (8, slP m 1), (19, .vsl (k + 1) 10 (tF cX (lF .nil R))), (20, vi (((k + 1) : Nat) : Int)), (21, vi i)], [rA1 nm l, vRow c1 1 m (lF 0 (jsL l act (R.take i)))]⟩) (k + 1) ⟨0, 0, Nat.zero_le _, fun j hj => absurd hj (Nat.not_lt_zero j), by rw [List.take_zero]; rfl, rfl, rfl⟩ ?_
    rintro _ _ ⟨i, m, hiK, hv, hm, rfl, rfl⟩
    have hw1 : IntKind.i64.wrap ((i : Int) + 1) = ((i + 1 : Nat) : Int) := w64 (by omega) (by omega)
    have hml := jsL_len l act (R.take i)
    rw [hm, List.length_take] at hml
    have hT : i < (k + 1) → R.take (i + 1) = R.take i ++ [lF .nil R i] := fun h => by
      unfold lF
      rw [List.take_add_one, List.getD_eq_getElem?_getD, List.getElem?_eq_getElem (by omega)]; rfl
    rcases m with _ | m
    all_goals
      repeat' (first | refine gg ?_ | exact trivial | with_reducible refine wA ?_ ?_ | refine Y2.mk ?_ ?_ | refine gh ?_ | exact qq | fail)
      refine pcond rfl ?_ ?_ <;> intro hc
    · have hc : i < (k + 1) := by have := of_decide_eq_true hc; omega
      replace hT := hT hc
      have cm := meaning_c nm l act (lF .nil R i) hl ha hin
      have nx : ∀ {j : Int}, meanI l act (lF .nil R i) = some j → ∀ j', j' < i + 1 → (meanI l act (lF .nil R j')).isSome = true := fun hM j' hj' => by
        by_cases e : j' = i
        · subst e; rw [hM]; rfl
        · exact hv j' (by omega)
      cases hM : meanI l act (lF .nil R i) with
      | none =>
        rw [hM] at cm
        repeat' (first | refine gg ?_ | exact trivial | with_reducible refine wA ?_ ?_ | refine Y2.mk ?_ ?_ | refine zz cm ?_ | refine gh ?_ | exact qq | fail)
        refine kret [] rfl ⟨trivial, trivial, trivial⟩ (qs := [.vsl 0 1 (tI (lF 0 [])), vi 7]) ⟨argNil, argVal, trivial⟩ ?_
        rw [if_neg]
        · rfl
        · intro hall
          have := List.all_eq_true.1 hall (lF .nil R i) (by unfold lF; rw [List.getD_eq_getElem?_getD, List.getElem?_eq_getElem (by omega)]; exact List.getElem_mem _)
          rw [hM] at this; cases this
      | some j =>
        rw [hM] at cm
        have hj : 0 ≤ j ∧ j < l.length := by
          rcases meanI_mem hM with ⟨h1, h2, _⟩ | h
          · exact ⟨h1, h2⟩
          · exact hin j h
        have hj2 : j.toNat < l.length := by omega
        have cc := computed_c (lF dD l j.toNat)
        have hS := jsL_snoc (R := R.take i) hM
        rw [← hT] at hS
        repeat' (first | refine gg ?_ | exact trivial | with_reducible refine wA ?_ ?_ | refine Y2.mk ?_ ?_ | exact ⟨hj.1, hj.2⟩ | exact hj2 | refine zz cm ?_ | refine zz cc ?_ | refine gh ?_ | exact qq | fail)
        refine pcond rfl ?_ ?_ <;> intro hcm
        · rw [if_pos hcm] at hS
          repeat' (first | refine gg ?_ | exact trivial | with_reducible refine wA ?_ ?_ | refine Y2.mk ?_ ?_ | exact ⟨Nat.le_refl _, (by rw [hk]; exact Nat.le_of_ble_eq_true rfl), Nat.le_of_eq (Nat.zero_add _), (show (_ : Nat) * 8 ≤ 140737488355328 from by omega), (show (_ : Nat) ≤ 9223372036854775807 from by omega)⟩ | refine gh ?_ | exact qq | fail)
          rw [hw1]
          exact kloop_next (st' := ⟨[(1, sV act), (3, .ptr 0 0 0), (8, slP (0 + 1) 1), (19, .vsl (k + 1) 10 (tF cX (lF .nil R))), (20, vi (((k + 1) : Nat) : Int)), (21, vi ((i + 1 : Nat) : Int))], [rA1 nm l, vRow c1 1 (0 + 1) (lF 0 (jsL l act (R.take i) ++ [j]))]⟩) ((k + 1) - (i + 1)) (can_rowsv [0, 4] (k0_sel hk rfl) rfl (.cons rfl (RowEq.cl (rA1_cl _ _)) (.cons rfl (app_l0 c1_cl hm rfl) .nil)) tmq) (by omega) ⟨i + 1, (0 + 1), by omega, nx hM, by rw [hS, List.length_append, hm]; rfl, rfl, by rw [hS]⟩
        · rw [if_neg (by rw [hcm]; decide), List.append_nil] at hS
          repeat' (first | refine gg ?_ | exact trivial | with_reducible refine wA ?_ ?_ | refine Y2.mk ?_ ?_ | refine gh ?_ | exact qq | fail)
          rw [hw1]
          exact kloop_next (st' := ⟨[(1, sV act), (3, .ptr 0 0 0), (8, slP 0 1), (19, .vsl (k + 1) 10 (tF cX (lF .nil R))), (20, vi (((k + 1) : Nat) : Int)), (21, vi ((i + 1 : Nat) : Int))], [rA1 nm l, vRow c1 1 0 (lF 0 (jsL l act (R.take i)))]⟩) ((k + 1) - (i + 1)) (can_rowsv [0, 1] (k0_sel hk rfl) rfl (.cons rfl (RowEq.cl (rA1_cl _ _)) (.cons rfl (RowEq.cl (v_cl c1_cl _ _ _)) .nil)) tmq) (by omega) ⟨i + 1, 0, by omega, nx hM, by rw [hS]; exact hm, rfl, by rw [hS]⟩
    · have hiK2 : i = (k + 1) := by have := of_decide_eq_false hc; omega
      subst hiK2
      have hTk : R.take (k + 1) = R := List.take_of_length_le (by omega)
      rw [hTk] at hm
      have hall : R.all (fun e => (meanI l act e).isSome) = true := by
        rw [List.all_eq_true]
        intro e he
        obtain ⟨j, hj, rfl⟩ := List.getElem_of_mem he
        have := hv j (by omega)
        unfold lF at this
        rwa [List.getD_eq_getElem?_getD, List.getElem?_eq_getElem hj] at this
      rw [if_pos hall, hTk]
      have hJ0 : jsL l act R = [] := List.length_eq_zero_iff.1 hm
      have hN0 : needL l act R = [] := by
        rw [List.eq_nil_iff_forall_not_mem]
        intro x hx
        rw [← need_mem, hJ0] at hx
        exact List.not_mem_nil hx
      repeat' (first | refine gg ?_ | exact trivial | with_reducible refine wA ?_ ?_ | refine Y2.mk ?_ ?_ | refine gh ?_ | exact qq | fail)
      refine pop_sort0 sortC rfl rfl rfl rfl rfl rfl ?_
      repeat' (first | refine gg ?_ | exact trivial | with_reducible refine wA ?_ ?_ | refine Y2.mk ?_ ?_ | refine gh ?_ | exact qq | fail)
      refine pop_callc [] rfl rfl rfl rfl rfl rfl (fun _ h => by cases h) (compact0_c (tI (lF 0 []))) ⟨argNil, trivial⟩ ?_
      rintro _ rfl
      repeat' (first | refine gg ?_ | exact trivial | with_reducible refine wA ?_ ?_ | refine Y2.mk ?_ ?_ | refine gh ?_ | exact qq | fail)
      refine kretv rfl ⟨trivial, trivial, trivial⟩ rfl ?_
      rw [hN0]; rfl
    · have hc : i < (k + 1) := by have := of_decide_eq_true hc; omega
      replace hT := hT hc
      have cm := meaning_c nm l act (lF .nil R i) hl ha hin
      have nx : ∀ {j : Int}, meanI l act (lF .nil R i) = some j → ∀ j', j' < i + 1 → (meanI l act (lF .nil R j')).isSome = true := fun hM j' hj' => by
        by_cases e : j' = i
        · subst e; rw [hM]; rfl
        · exact hv j' (by omega)
      cases hM : meanI l act (lF .nil R i) with
      | none =>
        rw [hM] at cm
        repeat' (first | refine gg ?_ | exact trivial | with_reducible refine wA ?_ ?_ | refine Y2.mk ?_ ?_ | refine zz cm ?_ | refine gh ?_ | exact qq | fail)
        refine kret [] rfl ⟨trivial, trivial, trivial⟩ (qs := [.vsl 0 1 (tI (lF 0 [])), vi 7]) ⟨argNil, argVal, trivial⟩ ?_
        rw [if_neg]
        · rfl
        · intro hall
          have := List.all_eq_true.1 hall (lF .nil R i) (by unfold lF; rw [List.getD_eq_getElem?_getD, List.getElem?_eq_getElem (by omega)]; exact List.getElem_mem _)
          rw [hM] at this; cases this
      | some j =>
        rw [hM] at cm
        have hj : 0 ≤ j ∧ j < l.length := by
          rcases meanI_mem hM with ⟨h1, h2, _⟩ | h
          · exact ⟨h1, h2⟩
          · exact hin j h
        have hj2 : j.toNat < l.length := by omega
        have cc := computed_c (lF dD l j.toNat)
        have hS := jsL_snoc (R := R.take i) hM
        rw [← hT] at hS
        repeat' (first | refine gg ?_ | exact trivial | with_reducible refine wA ?_ ?_ | refine Y2.mk ?_ ?_ | exact ⟨hj.1, hj.2⟩ | exact hj2 | refine zz cm ?_ | refine zz cc ?_ | refine gh ?_ | exact qq | fail)
        refine pcond rfl ?_ ?_ <;> intro hcm
        · rw [if_pos hcm] at hS
          repeat' (first | refine gg ?_ | exact trivial | with_reducible refine wA ?_ ?_ | refine Y2.mk ?_ ?_ | exact ⟨Nat.le_refl _, (by rw [hk]; exact Nat.le_of_ble_eq_true rfl), Nat.le_of_eq (Nat.zero_add _), (show (_ : Nat) * 8 ≤ 140737488355328 from by omega), (show (_ : Nat) ≤ 9223372036854775807 from by omega)⟩ | refine gh ?_ | exact qq | fail)
          rw [hw1]
          exact kloop_next (st' := ⟨[(1, sV act), (3, .ptr 0 0 0), (8, slP (m + 1 + 1) 1), (19, .vsl (k + 1) 10 (tF cX (lF .nil R))), (20, vi (((k + 1) : Nat) : Int)), (21, vi ((i + 1 : Nat) : Int))], [rA1 nm l, vRow c1 1 (m + 1 + 1) (lF 0 (jsL l act (R.take i) ++ [j]))]⟩) ((k + 1) - (i + 1)) (can_rowsv [0, 4] (k0_sel hk rfl) rfl (.cons rfl (RowEq.cl (rA1_cl _ _)) (.cons rfl (app_l c1_cl hm rfl rfl) .nil)) tmq) (by omega) ⟨i + 1, (m + 1 + 1), by omega, nx hM, by rw [hS, List.length_append, hm]; rfl, rfl, by rw [hS]⟩
        · rw [if_neg (by rw [hcm]; decide), List.append_nil] at hS
          repeat' (first | refine gg ?_ | exact trivial | with_reducible refine wA ?_ ?_ | refine Y2.mk ?_ ?_ | refine gh ?_ | exact qq | fail)
          rw [hw1]
          exact kloop_next (st' := ⟨[(1, sV act), (3, .ptr 0 0 0), (8, slP (m + 1) 1), (19, .vsl (k + 1) 10 (tF cX (lF .nil R))), (20, vi (((k + 1) : Nat) : Int)), (21, vi ((i + 1 : Nat) : Int))], [rA1 nm l, vRow c1 1 (m + 1) (lF 0 (jsL l act (R.take i)))]⟩) ((k + 1) - (i + 1)) (can_rowsv [0, 1] (k0_sel hk rfl) rfl (.cons rfl (RowEq.cl (rA1_cl _ _)) (.cons rfl (RowEq.cl (v_cl c1_cl _ _ _)) .nil)) tmq) (by omega) ⟨i + 1, (m + 1), by omega, nx hM, by rw [hS]; exact hm, rfl, by rw [hS]⟩
    · have hiK2 : i = (k + 1) := by have := of_decide_eq_false hc; omega
      subst hiK2
      have hTk : R.take (k + 1) = R := List.take_of_length_le (by omega)
      rw [hTk] at hm
      have hall : R.all (fun e => (meanI l act e).isSome) = true := by
        rw [List.all_eq_true]
        intro e he
        obtain ⟨j, hj, rfl⟩ := List.getElem_of_mem he
        have := hv j (by omega)
        unfold lF at this
        rwa [List.getD_eq_getElem?_getD, List.getElem?_eq_getElem hj] at this
      rw [if_pos hall, hTk]
      have hbd : m + 1 ≤ 900000 := by omega
      repeat' (first | refine gg ?_ | exact trivial | with_reducible refine wA ?_ ?_ | refine Y2.mk ?_ ?_ | refine gh ?_ | exact qq | fail)
      refine ocan0 (st' := ⟨[(8, .lsl 0 0 (m + 1)), (45, .lsl 0 0 (m + 1))], [iRow (m + 1) (lF 0 (jsL l act R))]⟩) (can_rowsv [1] (k0_sel hk rfl) rfl (.cons rfl vi_row .nil) tmq) ?_
      refine pop_sort sortC rfl rfl rfl rfl rfl rfl (D := jsL l act R) hm (by omega) rfl rfl ?_
      repeat' (first | refine gg ?_ | exact trivial | with_reducible refine wA ?_ ?_ | refine Y2.mk ?_ ?_ | refine gh ?_ | exact qq | fail)
      refine pop_rowsc [0] rfl rfl rfl rfl rfl rfl (.cons rfl trivial (RowEq.cl (i_cl _ _)) .nil) (compact_r (m + 1) (sortL (jsL l act R)) (by rw [sortL_len, hm]) (sortL_sorted _) (by omega)) (by exact ⟨PEq.refl _, trivial⟩) ?_
      rintro _ _ ⟨C, hC, rfl, rfl⟩
      refine ⟨_, _, rfl, ⟨i_cl _ _, trivial⟩, rfl, ?_⟩
      have hCe := need_uniq hasc hC
      rw [← hCe]
      repeat' (first | refine gg ?_ | exact trivial | with_reducible refine wA ?_ ?_ | refine Y2.mk ?_ ?_ | refine gh ?_ | exact qq | fail)
      refine xdone ?_
      refine kret [0] rfl ⟨trivial, trivial, trivial⟩ (qs := [sV C, vi 0]) ⟨argLsl (r := iRow C.length (lF 0 C)) rfl trivial (List.Mem.head _) (by show 0 + C.length ≤ C.length; omega) (fun a ha b hb => ⟨by rw [Nat.zero_add]; rfl, trivial⟩), argVal, trivial⟩ rfl
end Go.Proofs.YtcefhgomkehokaaGreat
namespace Go.Proofs.YtcefhgomkehokaaGreat
structure PrdC1 (F : FuncId) (c : Nat → PV) (p : Int → Bool) : Prop where
  c0 : Cl (c 0)
  run : ∀ x, PureC G.P F [vi x, c 0] (fun r => r = vb (p x))
theorem PrdC1.cl {F : FuncId} {c : Nat → PV} {p : Int → Bool} (h : PrdC1 F c p) : Cl (.clo F 1 c) := fun i hi => by
  obtain rfl : i = 0 := by omega
  exact h.c0
theorem PrdC1.eq {F : FuncId} {c : Nat → PV} {p : Int → Bool} (h : PrdC1 F c p) {τ : Nat → Option Nat} : PEq ((PV.clo F 1 c).ren τ) (.clo F 1 c) := PEq.cl _ h.cl
theorem indexFunc1_c (n : Nat) (g : Nat → Int) (F : FuncId) (c : Nat → PV) (p : Int → Bool) (hF : PrdC1 F c p) (hn : n ≤ 1000000000) :
    PureC G.P 60 [.vsl n 1 (tI g), .clo F 1 c] (fun r => ∃ i : Nat, i ≤ n ∧ (∀ j, j < i → p (g j) = false) ∧ ((i < n ∧ p (g i) = true ∧ r = vi i) ∨ (i = n ∧ r = vi (-1)))) := by
  refine pure_of (G := G.toPg) (fn := Tryz.f60) Tryz.func60 rfl rfl rfl ?_; intro Γ hk
  repeat' (first | refine gg ?_ | exact trivial | with_reducible refine wA ?_ ?_ | refine Y2.mk ?_ ?_ | refine gh ?_ | exact qq | fail)
  refine pcan (st' := ⟨[(0, .vsl n 1 (tI g)), (1, .clo F 1 c), (7, vi n), (8, vi ((0 : Nat) : Int))], []⟩) (can_rowsv [] (k0_sel hk rfl) rfl .nil (by exact ⟨PEq.refl _, hF.eq, PEq.refl _, PEq.refl _, trivial⟩)) ?_
  refine ploop (fun q st => ∃ i : Nat, i ≤ n ∧ (∀ j, j < i → p (g j) = false) ∧ q = n - i ∧ st = ⟨[(0, .vsl n 1 (tI g)), (1, .clo F 1 c), (7, vi n), (8, vi i)], []⟩) n ⟨0, by omega, fun j hj => by omega, rfl, rfl⟩ ?_
  rintro _ _ ⟨i, hi, hv, rfl, rfl⟩
  repeat' (first | refine gg ?_ | exact trivial | with_reducible refine wA ?_ ?_ | refine Y2.mk ?_ ?_ | refine gh ?_ | exact qq | fail)
  refine pcond rfl ?_ ?_ <;> intro hc <;> simp at hc
  · repeat' (first | refine gg ?_ | exact trivial | with_reducible refine wA ?_ ?_ | refine Y2.mk ?_ ?_ | refine gh ?_ | exact qq | fail)
    refine pop_rowsc [] rfl rfl rfl rfl rfl rfl .nil (pure_rows (hF.run (g i))) (by exact ⟨PEq.refl _, PEq.cl _ hF.c0, trivial⟩) ?_
    rintro _ _ ⟨rfl, rfl⟩
    refine ⟨_, _, rfl, trivial, rfl, ?_⟩
    cases hp : p (g i) with
    | true =>
      repeat' (first | refine gg ?_ | exact trivial | with_reducible refine wA ?_ ?_ | refine Y2.mk ?_ ?_ | refine gh ?_ | exact qq | fail)
      exact kret [] rfl ⟨trivial, trivial⟩ (qs := [vi i]) ⟨argVal, trivial⟩ ⟨i, by omega, hv, .inl ⟨hc, hp, rfl⟩⟩
    | false =>
      repeat' (first | refine gg ?_ | exact trivial | with_reducible refine wA ?_ ?_ | refine Y2.mk ?_ ?_ | refine gh ?_ | exact qq | fail)
      rw [show IntKind.i64.wrap ((i : Int) + 1) = ((i + 1 : Nat) : Int) from w64 (by omega) (by omega)]
      exact kloop_next (st' := ⟨[(0, .vsl n 1 (tI g)), (1, .clo F 1 c), (7, vi n), (8, vi ((i + 1 : Nat) : Int))], []⟩) (n - (i + 1)) (can_rowsv [] (k0_sel hk rfl) rfl .nil (by exact ⟨PEq.refl _, hF.eq, PEq.refl _, PEq.refl _, trivial⟩)) (by omega) ⟨i + 1, by omega, fun j hj => by
        by_cases e : j = i
        · subst e; exact hp
        · exact hv j (by omega), rfl, rfl⟩
  · have hin : i = n := by omega
    subst hin
    repeat' (first | refine gg ?_ | exact trivial | with_reducible refine wA ?_ ?_ | refine Y2.mk ?_ ?_ | refine gh ?_ | exact qq | fail)
    exact kret [] rfl ⟨trivial, trivial⟩ (qs := [vi (-1)]) ⟨argVal, trivial⟩ ⟨i, by omega, hv, .inr ⟨rfl, rfl⟩⟩
theorem containsFunc1_c (L : List Int) (F : FuncId) (c : Nat → PV) (p : Int → Bool) (hF : PrdC1 F c p) (hn : L.length ≤ 1000000000) : PureC G.P 62 [.vsl L.length 1 (tI (lF 0 L)), .clo F 1 c] (fun r => r = vb (L.any p)) := by
  have c1 := indexFunc1_c L.length (lF 0 L) F c p hF hn
  refine pure_of (G := G.toPg) (fn := Tryz.f62) Tryz.func62 rfl rfl rfl ?_; intro Γ hk
  repeat' (first | refine gg ?_ | exact trivial | with_reducible refine wA ?_ ?_ | refine Y2.mk ?_ ?_ | refine gh ?_ | exact qq | fail)
  refine pop_call [] rfl rfl rfl rfl rfl c1 ⟨argVsl, argCl hF.cl, trivial⟩ ?_
  rintro _ ⟨i, hi, hv, ⟨hin, hp, rfl⟩ | ⟨rfl, rfl⟩⟩
  · refine ⟨trivial, ?_⟩
    repeat' (first | refine gg ?_ | exact trivial | with_reducible refine wA ?_ ?_ | refine Y2.mk ?_ ?_ | refine gh ?_ | exact qq | fail)
    refine kretv rfl ⟨trivial, trivial⟩ rfl (eqB ?_)
    have : L.any p = true := by
      rw [lF_get' hin] at hp
      exact List.any_eq_true.2 ⟨_, List.getElem_mem hin, hp⟩
    rw [this]; simp
  · refine ⟨trivial, ?_⟩
    repeat' (first | refine gg ?_ | exact trivial | with_reducible refine wA ?_ ?_ | refine Y2.mk ?_ ?_ | refine gh ?_ | exact qq | fail)
    refine kretv rfl ⟨trivial, trivial⟩ rfl (eqB ?_)
    have : L.any p = false := by
      rw [List.any_eq_false]
      intro x hx
      obtain ⟨j, hj, rfl⟩ := List.getElem_of_mem hx
      have := hv j hj
      rw [lF_get' hj] at this
      simp [this]
    rw [this]; rfl
theorem index_c (L : List Int) (x : Int) (hn : L.length ≤ 1000000000) : PureC G.P 67 [.vsl L.length 1 (tI (lF 0 L)), vi x] (fun r => ∃ i : Nat, (x ∈ L ∧ r = vi i) ∨ (¬ x ∈ L ∧ r = vi (-1))) := by
  refine pure_of (G := G.toPg) (fn := Tryz.f67) Tryz.func67 rfl rfl rfl ?_; intro Γ hk
  repeat' (first | refine gg ?_ | exact trivial | with_reducible refine wA ?_ ?_ | refine Y2.mk ?_ ?_ | refine gh ?_ | exact qq | fail)
  refine pcan (st' := ⟨[(0, .vsl L.length 1 (tI (lF 0 L))), (1, vi x), (7, vi L.length), (8, vi ((0 : Nat) : Int))], []⟩) (can_rowsv [] (k0_sel hk rfl) rfl .nil tmq) ?_
  refine ploop (fun q st => ∃ i : Nat, i ≤ L.length ∧ (∀ j, j < i → lF 0 L j ≠ x) ∧ q = L.length - i ∧ st = ⟨[(0, .vsl L.length 1 (tI (lF 0 L))), (1, vi x), (7, vi L.length), (8, vi i)], []⟩) L.length ⟨0, by omega, fun j hj => by omega, rfl, rfl⟩ ?_
  rintro _ _ ⟨i, hi, hv, rfl, rfl⟩
  repeat' (first | refine gg ?_ | exact trivial | with_reducible refine wA ?_ ?_ | refine Y2.mk ?_ ?_ | refine gh ?_ | exact qq | fail)
  refine pcond rfl ?_ ?_ <;> intro hc
  · have hc : i < L.length := by have := of_decide_eq_true hc; omega
    repeat' (first | refine gg ?_ | exact trivial | with_reducible refine wA ?_ ?_ | refine Y2.mk ?_ ?_ | refine gh ?_ | exact qq | fail)
    refine pcond (b := decide (x = lF 0 L i)) (eqB (by rw [Bool.eq_iff_iff]; simp)) ?_ ?_ <;> intro h1
    · have h1 := of_decide_eq_true h1
      repeat' (first | refine gg ?_ | exact trivial | with_reducible refine wA ?_ ?_ | refine Y2.mk ?_ ?_ | refine gh ?_ | exact qq | fail)
      exact kretv rfl ⟨trivial, trivial⟩ rfl ⟨i, .inl ⟨by rw [h1, lF_get' hc]; exact List.getElem_mem hc, rfl⟩⟩
    · have h1 := of_decide_eq_false h1
      repeat' (first | refine gg ?_ | exact trivial | with_reducible refine wA ?_ ?_ | refine Y2.mk ?_ ?_ | refine gh ?_ | exact qq | fail)
      rw [show IntKind.i64.wrap ((i : Int) + 1) = ((i + 1 : Nat) : Int) from w64 (by omega) (by omega)]
      exact kloop_next (st' := ⟨[(0, .vsl L.length 1 (tI (lF 0 L))), (1, vi x), (7, vi L.length), (8, vi ((i + 1 : Nat) : Int))], []⟩) (L.length - (i + 1)) (can_rowsv [] (k0_sel hk rfl) rfl .nil tmq) (by omega) ⟨i + 1, by omega, fun j hj => by
        by_cases e : j = i
        · subst e; exact fun h => h1 h.symm
        · exact hv j (by omega), rfl, rfl⟩
  · have hin : i = L.length := by have := of_decide_eq_false hc; omega
    subst hin
    repeat' (first | refine gg ?_ | exact trivial | with_reducible refine wA ?_ ?_ | refine Y2.mk ?_ ?_ | refine gh ?_ | exact qq | fail)
    refine kretv rfl ⟨trivial, trivial⟩ rfl ⟨0, .inr ⟨fun hx => ?_, rfl⟩⟩
    obtain ⟨j, hj, rfl⟩ := List.getElem_of_mem hx
    exact hv j hj (lF_get' hj)
theorem contains_c (L : List Int) (x : Int) (hn : L.length ≤ 1000000000) : PureC G.P 41 [.vsl L.length 1 (tI (lF 0 L)), vi x] (fun r => r = vb (decide (x ∈ L))) := by
  have c1 := index_c L x hn
  refine pure_of (G := G.toPg) (fn := Tryz.f41) Tryz.func41 rfl rfl rfl ?_; intro Γ hk
  repeat' (first | refine gg ?_ | exact trivial | with_reducible refine wA ?_ ?_ | refine Y2.mk ?_ ?_ | refine gh ?_ | exact qq | fail)
  refine pop_call [] rfl rfl rfl rfl rfl c1 ⟨argVsl, argVal, trivial⟩ ?_
  rintro _ ⟨i, ⟨h, rfl⟩ | ⟨h, rfl⟩⟩
  · refine ⟨trivial, ?_⟩
    repeat' (first | refine gg ?_ | exact trivial | with_reducible refine wA ?_ ?_ | refine Y2.mk ?_ ?_ | refine gh ?_ | exact qq | fail)
    refine kretv rfl ⟨trivial, trivial⟩ rfl (eqB ?_)
    rw [decide_eq_true h]; simp
  · refine ⟨trivial, ?_⟩
    repeat' (first | refine gg ?_ | exact trivial | with_reducible refine wA ?_ ?_ | refine Y2.mk ?_ ?_ | refine gh ?_ | exact qq | fail)
    refine kretv rfl ⟨trivial, trivial⟩ rfl (eqB ?_)
    rw [decide_eq_false h]; rfl
end Go.Proofs.YtcefhgomkehokaaGreat
namespace Go.Proofs.YtcefhgomkehokaaGreat
def mapIS : MapTS G.P 70 := ⟨3, 22, _, Tryz.underlying70, Tryz.underlying3, fun _ => rfl, Tryz.zeroValue22⟩
structure AgO (nm : ByteArray) (l : List Df) : Prop where
  nm : nm.size ≤ 9223372036854775807
  bd : ∀ d, d ∈ l → BdD d
  w : ∀ d, d ∈ l → d.body.w ≤ 900000
theorem agr_at {nm : ByteArray} {l : List Df} (h : agrS nm l = true) {i : Nat} (hi : i < l.length) : defS (lF dD l i) = true := by
  unfold agrS at h
  simp only [Bool.and_eq_true] at h
  have := List.all_eq_true.1 h.2.2 (lF dD l i) (by unfold lF; rw [List.getD_eq_getElem?_getD, List.getElem?_eq_getElem hi]; exact List.getElem_mem hi)
  simp only [Bool.and_eq_true] at this
  exact this.2
theorem comp_body {d : Df} (h : defS d = true) (hc : comp d = true) : validS 32 d.body = true := by
  unfold comp at hc
  have hc := of_decide_eq_true hc
  unfold defS at h
  rcases hc with hc | hc
  · rw [if_neg (by omega), if_neg (by omega), if_neg (by omega), if_pos hc] at h
    simp only [Bool.and_eq_true] at h
    exact h.2.2.2.1
  · rw [if_neg (by omega), if_neg (by omega), if_neg (by omega), if_neg (by omega), if_pos hc] at h
    simp only [Bool.and_eq_true] at h
    exact h.2.2.2.1
theorem AgO.body {nm : ByteArray} {l : List Df} (h : AgO nm l) (hv : agrS nm l = true) {i : Nat} (hi : i < l.length) (hc : comp (lF dD l i) = true) : BodyOk (lF dD l i) :=
  ⟨comp_body (agr_at hv hi) hc, h.w _ (by unfold lF; rw [List.getD_eq_getElem?_getD, List.getElem?_eq_getElem hi]; exact List.getElem_mem hi)⟩
theorem actL_in {l : List Df} {day : Int} : ∀ x, x ∈ actL l day → 0 ≤ x ∧ x < l.length := fun x hx => by
  obtain ⟨i, rfl, hi, _⟩ := actN_mem hx
  omega
theorem chk_valid {nm : ByteArray} {l : List Df} {day : Int} (h : chkE nm l day = 0) : agrS nm l = true := by
  unfold chkE at h
  cases hv : agrS nm l with
  | true => rfl
  | false => rw [if_pos hv] at h; cases h
theorem actL_len (l : List Df) (day : Int) : (actL l day).length ≤ l.length := actN_len l day l.length
def ActS (nm : ByteArray) (l : List Df) (day : Int) : List Int := if chkE nm l day = 0 then actL l day else []
set_option maxHeartbeats 4000000 in
theorem Active_c (nm : ByteArray) (l : List Df) (day : Int) (h : AgO nm l) (hl : l.length ≤ 1000000) : PureC G.P 31 [vA nm l, vi day] (fun r => r = sV (ActS nm l day)) := by
  have ck := check_c nm l day h.nm h.bd
  have ca := active_c nm l day hl
  refine pure_of (G := G.toPg) (fn := Tryz.f31) Tryz.func31 rfl rfl rfl ?_; intro Γ hk
  repeat' (first | refine gg ?_ | exact trivial | with_reducible refine wA ?_ ?_ | refine Y2.mk ?_ ?_ | refine zz ck ?_ | refine gh ?_ | exact qq | fail)
  refine pcond (b := decide (chkE nm l day ≠ 0)) (eqB (by rw [Bool.eq_iff_iff]; simp)) ?_ ?_ <;> intro h1
  · have h1 := of_decide_eq_true h1
    repeat' (first | refine gg ?_ | exact trivial | with_reducible refine wA ?_ ?_ | refine Y2.mk ?_ ?_ | refine gh ?_ | exact qq | fail)
    refine kret [] rfl ⟨trivial, trivial⟩ (qs := [.vsl 0 1 (tI (lF 0 []))]) ⟨argNil, trivial⟩ ?_
    unfold ActS; rw [if_neg h1]; rfl
  · have h1 := Decidable.not_not.1 (of_decide_eq_false h1)
    repeat' (first | refine gg ?_ | exact trivial | with_reducible refine wA ?_ ?_ | refine Y2.mk ?_ ?_ | (refine pop_callc [] rfl rfl rfl rfl rfl rfl (fun _ h => by cases h) (ca) (args_cl _ rfl) ?_; rintro _ rfl) | refine gh ?_ | exact qq | fail)
    refine kretv rfl ⟨trivial, trivial⟩ rfl ?_
    unfold ActS; rw [if_pos h1]; rfl
def NeedsS (nm : ByteArray) (l : List Df) (day i : Int) : List Int × Int :=
  if chkE nm l day ≠ 0 then ([], chkE nm l day) else if i ∈ actL l day ∧ comp (lF dD l i.toNat) = true then needS l (actL l day) i.toNat else ([], 16)
set_option maxHeartbeats 4000000 in
theorem Needs_c (nm : ByteArray) (l : List Df) (day i : Int) (h : AgO nm l) (hl : l.length ≤ 1000000) : PureC G.P 16 [vA nm l, vi day, vi i] (fun r => r = .tup 2 (nthP [sV (NeedsS nm l day i).1, vi (NeedsS nm l day i).2])) := by
  have ck := check_c nm l day h.nm h.bd
  have ca := active_c nm l day hl
  have hal := actL_len l day
  have cn := contains_c (actL l day) i (by omega)
  refine pure_of (G := G.toPg) (fn := Tryz.f16) Tryz.func16 rfl rfl rfl ?_; intro Γ hk
  repeat' (first | refine gg ?_ | exact trivial | with_reducible refine wA ?_ ?_ | refine Y2.mk ?_ ?_ | refine zz ck ?_ | refine gh ?_ | exact qq | fail)
  refine pcond (b := decide (chkE nm l day ≠ 0)) (eqB (by rw [Bool.eq_iff_iff]; simp)) ?_ ?_ <;> intro h1
  · have h1 := of_decide_eq_true h1
    repeat' (first | refine gg ?_ | exact trivial | with_reducible refine wA ?_ ?_ | refine Y2.mk ?_ ?_ | refine gh ?_ | exact qq | fail)
    refine kret [] rfl ⟨trivial, trivial, trivial⟩ (qs := [.vsl 0 1 (tI (lF 0 [])), vi (chkE nm l day)]) ⟨argNil, argVal, trivial⟩ ?_
    unfold NeedsS; rw [if_pos h1]; rfl
  · have h1 := Decidable.not_not.1 (of_decide_eq_false h1)
    have hv := chk_valid h1
    have cc := computed_c (lF dD l i.toNat)
    by_cases hin : i ∈ actL l day
    · have hb := actL_in i hin
      have hb2 : i.toNat < l.length := by omega
      rw [decide_eq_true hin] at cn
      have hnd : comp (lF dD l i.toNat) = true → BodyOk (lF dD l i.toNat) := fun hc => h.body hv hb2 hc
      cases hcm : comp (lF dD l i.toNat) with
      | true =>
        rw [hcm] at cc
        have hi0 : ((i.toNat : Nat) : Int) = i := by omega
        have cd := needs_c nm l (actL l day) i.toNat hb2 hl (by omega) actL_in (actN_asc l day _) (hnd hcm)
        rw [hi0] at cd
        repeat' (first | refine gg ?_ | exact trivial | with_reducible refine wA ?_ ?_ | refine Y2.mk ?_ ?_ | (refine pop_callc [] rfl rfl rfl rfl rfl rfl (fun _ h => by cases h) (ca) (args_cl _ rfl) ?_; rintro _ rfl) | (refine pop_callc [] rfl rfl rfl rfl rfl rfl (fun _ h => by cases h) (cd) (args_cl _ rfl) ?_; rintro _ rfl) | exact ⟨hb.1, hb.2⟩ | exact hb2 | refine zz cn ?_ | refine zz cc ?_ | refine gh ?_ | exact qq | fail)
        refine kretv rfl ⟨trivial, trivial, trivial⟩ rfl ?_
        unfold NeedsS; rw [if_neg (by omega), if_pos ⟨hin, hcm⟩]; rfl
      | false =>
        rw [hcm] at cc
        repeat' (first | refine gg ?_ | exact trivial | with_reducible refine wA ?_ ?_ | refine Y2.mk ?_ ?_ | (refine pop_callc [] rfl rfl rfl rfl rfl rfl (fun _ h => by cases h) (ca) (args_cl _ rfl) ?_; rintro _ rfl) | exact ⟨hb.1, hb.2⟩ | exact hb2 | refine zz cn ?_ | refine zz cc ?_ | refine gh ?_ | exact qq | fail)
        refine kret [] rfl ⟨trivial, trivial, trivial⟩ (qs := [.vsl 0 1 (tI (lF 0 [])), vi 16]) ⟨argNil, argVal, trivial⟩ ?_
        unfold NeedsS; rw [if_neg (by omega), if_neg (fun hh => by rw [hcm] at hh; cases hh.2)]; rfl
    · rw [decide_eq_false hin] at cn
      repeat' (first | refine gg ?_ | exact trivial | with_reducible refine wA ?_ ?_ | refine Y2.mk ?_ ?_ | (refine pop_callc [] rfl rfl rfl rfl rfl rfl (fun _ h => by cases h) (ca) (args_cl _ rfl) ?_; rintro _ rfl) | (refine pop_gfalse rfl rfl rfl rfl ?_) | exact (fun hh => by cases hh) | refine zz cn ?_ | refine gh ?_ | exact qq | fail)
      refine xdone ?_
      refine kret [] rfl ⟨trivial, trivial, trivial⟩ (qs := [.vsl 0 1 (tI (lF 0 [])), vi 16]) ⟨argNil, argVal, trivial⟩ ?_
      unfold NeedsS; rw [if_neg (by omega), if_neg (fun hh => hin hh.1)]; rfl
end Go.Proofs.YtcefhgomkehokaaGreat
namespace Go.Proofs.YtcefhgomkehokaaGreat
theorem lower_c (c : Int) : PureC G.P 114 [vy c] (fun r => r = vb (lowB c)) := by
  refine pure_of (G := G.toPg) (fn := Tryz.f114) Tryz.func114 rfl rfl rfl ?_; intro Γ hk
  repeat' (first | ((with_reducible (show POps _ _ _ _ (_ :: _) _ _)); (first | refine pop_read rfl rfl rfl rfl trivial ?_ | refine pop_guard rfl rfl rfl rfl rfl qgd ?_ | refine pop_new rfl rfl rfl rfl trivial ?_ | refine pop_store rfl rfl rfl Nat.zero_lt_one ?_ | refine pop_read rfl rfl rfl rfl qrd ?_ | refine pop_read2 rfl rfl rfl rfl trivial ?_ | refine pop_store rfl rfl rfl qst ?_ | fail)) | refine pnil ?_ | refine kround_exit ?_ | refine kround_ret ?_ | refine kround_next ?_ | refine kseq_normal ?_ | refine pseq ?_ | refine pregion ?_ | refine pret ?_ | refine kseq_ret ?_ | refine pskip ?_ | refine pblock ?_ | refine pexit ?_ | refine kseq_exit ?_ | refine kblock_hit rfl ?_ | refine kblock_miss rfl ?_ | refine kblock_ret ?_ | refine kblock_normal ?_ | refine kloop_ret ?_ | refine kloop_exit ?_ | refine kcut_ret ?_ | refine kcut_exit ?_ | refine pcond_t rfl ?_ | refine pcond_f rfl ?_ | (with_reducible (show POps _ _ _ _ _ _ _); simp only [List.append_eq, List.cons_append, List.nil_append]))
  refine kretv rfl ⟨trivial, trivial⟩ rfl (eqB ?_)
  rw [Bool.eq_iff_iff]; simp [lowB]
theorem digit_c (c : Int) : PureC G.P 115 [vy c] (fun r => r = vb (digB c)) := by
  refine pure_of (G := G.toPg) (fn := Tryz.f115) Tryz.func115 rfl rfl rfl ?_; intro Γ hk
  repeat' (first | ((with_reducible (show POps _ _ _ _ (_ :: _) _ _)); (first | refine pop_read rfl rfl rfl rfl trivial ?_ | refine pop_guard rfl rfl rfl rfl rfl qgd ?_ | refine pop_new rfl rfl rfl rfl trivial ?_ | refine pop_store rfl rfl rfl Nat.zero_lt_one ?_ | refine pop_read rfl rfl rfl rfl qrd ?_ | refine pop_read2 rfl rfl rfl rfl trivial ?_ | refine pop_store rfl rfl rfl qst ?_ | fail)) | refine pnil ?_ | refine kround_exit ?_ | refine kround_ret ?_ | refine kround_next ?_ | refine kseq_normal ?_ | refine pseq ?_ | refine pregion ?_ | refine pret ?_ | refine kseq_ret ?_ | refine pskip ?_ | refine pblock ?_ | refine pexit ?_ | refine kseq_exit ?_ | refine kblock_hit rfl ?_ | refine kblock_miss rfl ?_ | refine kblock_ret ?_ | refine kblock_normal ?_ | refine kloop_ret ?_ | refine kloop_exit ?_ | refine kcut_ret ?_ | refine kcut_exit ?_ | refine pcond_t rfl ?_ | refine pcond_f rfl ?_ | (with_reducible (show POps _ _ _ _ _ _ _); simp only [List.append_eq, List.cons_append, List.nil_append]))
  refine kretv rfl ⟨trivial, trivial⟩ rfl (eqB ?_)
  rw [Bool.eq_iff_iff]; simp [digB]
theorem word_c (s : ByteArray) (h0 : 0 < s.size) (hs : s.size ≤ 1000) : PureC G.P 83 [vs s, vi 0] (fun r => r = vi (wlenS s)) := by
  refine pure_of (G := G.toPg) (fn := Tryz.f83) Tryz.func83 rfl rfl rfl ?_; intro Γ hk
  repeat' (first | ((with_reducible (show POps _ _ _ _ (_ :: _) _ _)); (first | refine pop_read rfl rfl rfl rfl trivial ?_ | refine pop_guard rfl rfl rfl rfl rfl qgd ?_ | refine pop_new rfl rfl rfl rfl trivial ?_ | refine pop_store rfl rfl rfl Nat.zero_lt_one ?_ | refine pop_read rfl rfl rfl rfl qrd ?_ | refine pop_read2 rfl rfl rfl rfl trivial ?_ | refine pop_store rfl rfl rfl qst ?_ | (refine pop_guard2 rfl rfl rfl rfl rfl ?_ ?_; (exact fun h => ⟨h, h, by omega, by omega⟩)) | (refine pop_callgv rfl rfl rfl rfl rfl rfl (fun _ => lower_c (byteI s 0)) ?_ rfl rfl rfl ?_; (exact fun h => ⟨h, trivial⟩)) | fail)) | refine pnil ?_ | refine kround_exit ?_ | refine kround_ret ?_ | refine kround_next ?_ | refine kseq_normal ?_ | refine pseq ?_ | refine pregion ?_ | refine pret ?_ | refine kseq_ret ?_ | refine pskip ?_ | refine pblock ?_ | refine pexit ?_ | refine kseq_exit ?_ | refine kblock_hit rfl ?_ | refine kblock_miss rfl ?_ | refine kblock_ret ?_ | refine kblock_normal ?_ | refine kloop_ret ?_ | refine kloop_exit ?_ | refine kcut_ret ?_ | refine kcut_exit ?_ | refine pcond_t rfl ?_ | refine pcond_f rfl ?_ | (with_reducible (show POps _ _ _ _ _ _ _); simp only [List.append_eq, List.cons_append, List.nil_append]))
  refine pcond rfl ?_ ?_ <;> intro hc
  · have hl : lowB (byteI s 0) = false := by
      have hc : (bif decide ((s.size : Int) ≤ 0) then true else !lowB (byteI s 0)) = true := hc
      rw [decide_eq_false (by omega)] at hc
      simpa using hc
    repeat' (first | ((with_reducible (show POps _ _ _ _ (_ :: _) _ _)); (first | refine pop_read rfl rfl rfl rfl trivial ?_ | refine pop_guard rfl rfl rfl rfl rfl qgd ?_ | refine pop_new rfl rfl rfl rfl trivial ?_ | refine pop_store rfl rfl rfl Nat.zero_lt_one ?_ | refine pop_read rfl rfl rfl rfl qrd ?_ | refine pop_read2 rfl rfl rfl rfl trivial ?_ | refine pop_store rfl rfl rfl qst ?_ | fail)) | refine pnil ?_ | refine kround_exit ?_ | refine kround_ret ?_ | refine kround_next ?_ | refine kseq_normal ?_ | refine pseq ?_ | refine pregion ?_ | refine pret ?_ | refine kseq_ret ?_ | refine pskip ?_ | refine pblock ?_ | refine pexit ?_ | refine kseq_exit ?_ | refine kblock_hit rfl ?_ | refine kblock_miss rfl ?_ | refine kblock_ret ?_ | refine kblock_normal ?_ | refine kloop_ret ?_ | refine kloop_exit ?_ | refine kcut_ret ?_ | refine kcut_exit ?_ | refine pcond_t rfl ?_ | refine pcond_f rfl ?_ | (with_reducible (show POps _ _ _ _ _ _ _); simp only [List.append_eq, List.cons_append, List.nil_append]))
    refine kretv rfl ⟨trivial, trivial⟩ rfl (eqI ?_)
    rw [wlenS, hl]; rfl
  · have hl : lowB (byteI s 0) = true := by
      have hc : (bif decide ((s.size : Int) ≤ 0) then true else !lowB (byteI s 0)) = false := hc
      rw [decide_eq_false (by omega)] at hc
      simpa using hc
    rw [wlenS, if_pos hl]
    repeat' (first | ((with_reducible (show POps _ _ _ _ (_ :: _) _ _)); (first | refine pop_read rfl rfl rfl rfl trivial ?_ | refine pop_guard rfl rfl rfl rfl rfl qgd ?_ | refine pop_new rfl rfl rfl rfl trivial ?_ | refine pop_store rfl rfl rfl Nat.zero_lt_one ?_ | refine pop_read rfl rfl rfl rfl qrd ?_ | refine pop_read2 rfl rfl rfl rfl trivial ?_ | refine pop_store rfl rfl rfl qst ?_ | fail)) | refine pnil ?_ | refine kround_exit ?_ | refine kround_ret ?_ | refine kround_next ?_ | refine kseq_normal ?_ | refine pseq ?_ | refine pregion ?_ | refine pret ?_ | refine kseq_ret ?_ | refine pskip ?_ | refine pblock ?_ | refine pexit ?_ | refine kseq_exit ?_ | refine kblock_hit rfl ?_ | refine kblock_miss rfl ?_ | refine kblock_ret ?_ | refine kblock_normal ?_ | refine kloop_ret ?_ | refine kloop_exit ?_ | refine kcut_ret ?_ | refine kcut_exit ?_ | refine pcond_t rfl ?_ | refine pcond_f rfl ?_ | (with_reducible (show POps _ _ _ _ _ _ _); simp only [List.append_eq, List.cons_append, List.nil_append]))
    refine pcan (can_sel [0, 1]) ?_
    refine ploop (fun q st => ∃ n : Nat, n ≤ s.size ∧ scanW s (s.size - n) n = scanW s (s.size - 1) 1 ∧ q = s.size - n ∧ st = ⟨[(0, vs s), (1, vi n)], []⟩) s.size ⟨0, by omega, by rw [show s.size - 0 = (s.size - 1) + 1 by omega, scanW, if_pos (by simp [wrdB, hl])], rfl, rfl⟩ ?_
    rintro _ _ ⟨n, n2, hsc, rfl, rfl⟩
    repeat' (first | ((with_reducible (show POps _ _ _ _ (_ :: _) _ _)); (first | refine pop_read rfl rfl rfl rfl trivial ?_ | refine pop_guard rfl rfl rfl rfl rfl qgd ?_ | refine pop_new rfl rfl rfl rfl trivial ?_ | refine pop_store rfl rfl rfl Nat.zero_lt_one ?_ | refine pop_read rfl rfl rfl rfl qrd ?_ | refine pop_read2 rfl rfl rfl rfl trivial ?_ | refine pop_store rfl rfl rfl qst ?_ | (refine pop_guard2 rfl rfl rfl rfl rfl ?_ ?_; (exact fun h => ⟨h, h, by omega, by simp at h; omega⟩)) | (refine pop_callgv rfl rfl rfl rfl rfl rfl (fun _ => lower_c (byteI s (n : Int).toNat)) ?_ rfl rfl rfl ?_; (exact fun h => ⟨h, trivial⟩)) | (refine pop_callgv rfl rfl rfl rfl rfl rfl (fun _ => digit_c (byteI s (n : Int).toNat)) ?_ rfl rfl rfl ?_; (exact fun h => ⟨h, trivial⟩)) | fail)) | refine pnil ?_ | refine kround_exit ?_ | refine kround_ret ?_ | refine kround_next ?_ | refine kseq_normal ?_ | refine pseq ?_ | refine pregion ?_ | refine pret ?_ | refine kseq_ret ?_ | refine pskip ?_ | refine pblock ?_ | refine pexit ?_ | refine kseq_exit ?_ | refine kblock_hit rfl ?_ | refine kblock_miss rfl ?_ | refine kblock_ret ?_ | refine kblock_normal ?_ | refine kloop_ret ?_ | refine kloop_exit ?_ | refine kcut_ret ?_ | refine kcut_exit ?_ | refine pcond_t rfl ?_ | refine pcond_f rfl ?_ | (with_reducible (show POps _ _ _ _ _ _ _); simp only [List.append_eq, List.cons_append, List.nil_append]))
    refine pcond rfl ?_ ?_ <;> intro hc2
    · have hlt : n < s.size ∧ wrdB (byteI s n) = true := by
        have hc2 : (bif decide ((n : Int) < (s.size : Int)) then (bif (bif lowB (byteI s n) then true else digB (byteI s n)) then true else byteI s n == 95) else false) = true := hc2
        by_cases hn : n < s.size
        · refine ⟨hn, ?_⟩
          unfold wrdB
          cases h1 : lowB (byteI s n) <;> cases h2 : digB (byteI s n) <;> simp_all
        · simp [hn] at hc2
      repeat' (first | ((with_reducible (show POps _ _ _ _ (_ :: _) _ _)); (first | refine pop_read rfl rfl rfl rfl trivial ?_ | refine pop_guard rfl rfl rfl rfl rfl qgd ?_ | refine pop_new rfl rfl rfl rfl trivial ?_ | refine pop_store rfl rfl rfl Nat.zero_lt_one ?_ | refine pop_read rfl rfl rfl rfl qrd ?_ | refine pop_read2 rfl rfl rfl rfl trivial ?_ | refine pop_store rfl rfl rfl qst ?_ | fail)) | refine pnil ?_ | refine kround_exit ?_ | refine kround_ret ?_ | refine kround_next ?_ | refine kseq_normal ?_ | refine pseq ?_ | refine pregion ?_ | refine pret ?_ | refine kseq_ret ?_ | refine pskip ?_ | refine pblock ?_ | refine pexit ?_ | refine kseq_exit ?_ | refine kblock_hit rfl ?_ | refine kblock_miss rfl ?_ | refine kblock_ret ?_ | refine kblock_normal ?_ | refine kloop_ret ?_ | refine kloop_exit ?_ | refine kcut_ret ?_ | refine kcut_exit ?_ | refine pcond_t rfl ?_ | refine pcond_f rfl ?_ | (with_reducible (show POps _ _ _ _ _ _ _); simp only [List.append_eq, List.cons_append, List.nil_append]))
      rw [show IntKind.i64.wrap ((n : Int) + 1) = ((n + 1 : Nat) : Int) from w64 (by omega) (by omega)]
      refine kloop_next (s.size - (n + 1)) (can_sel [0, 1]) (by omega) ⟨n + 1, by omega, ?_, rfl, rfl⟩
      rw [← hsc, show s.size - n = (s.size - (n + 1)) + 1 by omega, scanW, if_pos hlt.2]
    · have hlt : ¬ n < s.size ∨ wrdB (byteI s n) = false := by
        have hc2 : (bif decide ((n : Int) < (s.size : Int)) then (bif (bif lowB (byteI s n) then true else digB (byteI s n)) then true else byteI s n == 95) else false) = false := hc2
        by_cases hn : n < s.size
        · refine .inr ?_
          unfold wrdB
          cases h1 : lowB (byteI s n) <;> cases h2 : digB (byteI s n) <;> simp_all
        · exact .inl hn
      repeat' (first | ((with_reducible (show POps _ _ _ _ (_ :: _) _ _)); (first | refine pop_read rfl rfl rfl rfl trivial ?_ | refine pop_guard rfl rfl rfl rfl rfl qgd ?_ | refine pop_new rfl rfl rfl rfl trivial ?_ | refine pop_store rfl rfl rfl Nat.zero_lt_one ?_ | refine pop_read rfl rfl rfl rfl qrd ?_ | refine pop_read2 rfl rfl rfl rfl trivial ?_ | refine pop_store rfl rfl rfl qst ?_ | fail)) | refine pnil ?_ | refine kround_exit ?_ | refine kround_ret ?_ | refine kround_next ?_ | refine kseq_normal ?_ | refine pseq ?_ | refine pregion ?_ | refine pret ?_ | refine kseq_ret ?_ | refine pskip ?_ | refine pblock ?_ | refine pexit ?_ | refine kseq_exit ?_ | refine kblock_hit rfl ?_ | refine kblock_miss rfl ?_ | refine kblock_ret ?_ | refine kblock_normal ?_ | refine kloop_ret ?_ | refine kloop_exit ?_ | refine kcut_ret ?_ | refine kcut_exit ?_ | refine pcond_t rfl ?_ | refine pcond_f rfl ?_ | (with_reducible (show POps _ _ _ _ _ _ _); simp only [List.append_eq, List.cons_append, List.nil_append]))
      refine kretv rfl ⟨trivial, trivial⟩ rfl (eqI ?_)
      rw [← hsc]
      rcases hlt with h | h
      · rw [show s.size - n = 0 by omega, scanW]
      · by_cases hn : n < s.size
        · rw [show s.size - n = (s.size - (n + 1)) + 1 by omega, scanW, if_neg (by rw [h]; simp)]
        · rw [show s.size - n = 0 by omega, scanW]
theorem kwS_symm (s : ByteArray) : kwS s = kwL.any (fun k => k.toList == s.toList) := by
  unfold kwS
  congr 1
  funext k
  exact BEq.comm
set_option maxHeartbeats 1000000 in
theorem isKeyword17_c (s : ByteArray) : PureC G.P 84 [vs s] (fun r => r = vb (kwS s)) := by
  refine pure_of (G := G.toPg) (fn := Tryz.f84) Tryz.func84 rfl rfl rfl ?_; intro Γ hk
  repeat' (first | ((with_reducible (show POps _ _ _ _ (_ :: _) _ _)); (first | refine pop_read rfl rfl rfl rfl trivial ?_ | refine pop_guard rfl rfl rfl rfl rfl qgd ?_ | refine pop_new rfl rfl rfl rfl trivial ?_ | refine pop_store rfl rfl rfl Nat.zero_lt_one ?_ | refine pop_read rfl rfl rfl rfl qrd ?_ | refine pop_read2 rfl rfl rfl rfl trivial ?_ | refine pop_store rfl rfl rfl qst ?_ | refine pop_make rfl rfl rfl rfl trivial ?_ | fail)) | refine pnil ?_ | refine kround_exit ?_ | refine kround_ret ?_ | refine kround_next ?_ | refine kseq_normal ?_ | refine pseq ?_ | refine pregion ?_ | refine pret ?_ | refine kseq_ret ?_ | refine pskip ?_ | refine pblock ?_ | refine pexit ?_ | refine kseq_exit ?_ | refine kblock_hit rfl ?_ | refine kblock_miss rfl ?_ | refine kblock_ret ?_ | refine kblock_normal ?_ | refine kloop_ret ?_ | refine kloop_exit ?_ | refine kcut_ret ?_ | refine kcut_exit ?_ | refine pcond_t rfl ?_ | refine pcond_f rfl ?_ | (with_reducible (show POps _ _ _ _ _ _ _); simp only [List.append_eq, List.cons_append, List.nil_append]))
  refine ploopN 40 ?_
  repeat' (first | ((with_reducible (show POps _ _ _ _ (_ :: _) _ _)); (first | refine pop_read rfl rfl rfl rfl trivial ?_ | refine pop_guard rfl rfl rfl rfl rfl qgd ?_ | refine pop_new rfl rfl rfl rfl trivial ?_ | refine pop_store rfl rfl rfl Nat.zero_lt_one ?_ | refine pop_read rfl rfl rfl rfl qrd ?_ | refine pop_read2 rfl rfl rfl rfl trivial ?_ | refine pop_store rfl rfl rfl qst ?_ | refine pop_read rfl rfl rfl rfl (by first | exact ⟨by decide, by decide⟩ | (show (_ : Nat) < _; decide)) ?_ | fail)) | refine pnil ?_ | refine kround_exit ?_ | refine kround_ret ?_ | refine kround_next ?_ | refine kseq_normal ?_ | refine pseq ?_ | refine pregion ?_ | refine pret ?_ | refine kseq_ret ?_ | refine pskip ?_ | refine pblock ?_ | refine pexit ?_ | refine kseq_exit ?_ | refine kblock_hit rfl ?_ | refine kblock_miss rfl ?_ | refine kblock_ret ?_ | refine kblock_normal ?_ | refine kloop_ret ?_ | refine kloop_exit ?_ | refine kcut_ret ?_ | refine kcut_exit ?_ | refine pcond_t rfl ?_ | refine pcond_f rfl ?_ | (with_reducible (show POps _ _ _ _ _ _ _); simp only [List.append_eq, List.cons_append, List.nil_append]) | (refine pcond rfl ?_ ?_ <;> intro hc))
  all_goals refine kretv rfl ⟨trivial, trivial⟩ rfl (eqB ?_)
  all_goals rw [kwS_symm]
  all_goals first
    | (simp only [kwL, List.any_cons, List.any_nil, *, Bool.or_true, Bool.true_or, Bool.or_false, Bool.false_or]; done)
theorem isName17_c (s : ByteArray) (hs : s.size ≤ 9223372036854775807) : PureC G.P 72 [vs s] (fun r => r = vb (nameS s)) := by
  have he := empty_iff s
  have hg : ((bif !(s.toList == ({ data := #[] } : ByteArray).toList) then decide ((s.size : Int) ≤ 24) else false) == true) = true → 0 < s.size ∧ s.size ≤ 24 := fun h => by
    rw [he] at h
    by_cases h1 : 0 < s.size
    · by_cases h2 : (s.size : Int) ≤ 24
      · omega
      · rw [decide_eq_true h1, decide_eq_false h2] at h; cases h
    · rw [decide_eq_false h1] at h; cases h
  refine pure_of (G := G.toPg) (fn := Tryz.f72) Tryz.func72 rfl rfl rfl ?_; intro Γ hk
  repeat' (first | ((with_reducible (show POps _ _ _ _ (_ :: _) _ _)); (first | refine pop_read rfl rfl rfl rfl trivial ?_ | refine pop_guard rfl rfl rfl rfl rfl qgd ?_ | refine pop_new rfl rfl rfl rfl trivial ?_ | refine pop_store rfl rfl rfl Nat.zero_lt_one ?_ | refine pop_read rfl rfl rfl rfl qrd ?_ | refine pop_read2 rfl rfl rfl rfl trivial ?_ | refine pop_store rfl rfl rfl qst ?_ | (refine pop_callgv rfl rfl rfl rfl rfl rfl (fun h => word_c s (hg h).1 (by have := hg h; omega)) ?_ rfl rfl rfl ?_; (exact fun h => ⟨h, trivial⟩)) | (refine pop_callgv rfl rfl rfl rfl rfl rfl (fun _ => isKeyword17_c s) ?_ rfl rfl rfl ?_; (exact fun h => ⟨h, trivial⟩)) | fail)) | refine pnil ?_ | refine kround_exit ?_ | refine kround_ret ?_ | refine kround_next ?_ | refine kseq_normal ?_ | refine pseq ?_ | refine pregion ?_ | refine pret ?_ | refine kseq_ret ?_ | refine pskip ?_ | refine pblock ?_ | refine pexit ?_ | refine kseq_exit ?_ | refine kblock_hit rfl ?_ | refine kblock_miss rfl ?_ | refine kblock_ret ?_ | refine kblock_normal ?_ | refine kloop_ret ?_ | refine kloop_exit ?_ | refine kcut_ret ?_ | refine kcut_exit ?_ | refine pcond_t rfl ?_ | refine pcond_f rfl ?_ | (with_reducible (show POps _ _ _ _ _ _ _); simp only [List.append_eq, List.cons_append, List.nil_append]))
  refine kretv rfl ⟨trivial, trivial⟩ rfl (eqB ?_)
  unfold nameS
  rw [he]
  have e2 : decide ((s.size : Int) ≤ 24) = decide (s.size ≤ 24) := by rw [Bool.eq_iff_iff]; simp only [decide_eq_true_eq]; omega
  have e3 : ((wlenS s : Int) == (s.size : Int)) = decide (wlenS s = s.size) := by rw [Bool.eq_iff_iff]; simp only [decide_eq_true_eq, beq_iff_eq]; omega
  rw [e2, e3, Bool.decide_and]
  cases decide (0 < s.size) <;> cases decide (s.size ≤ 24) <;> cases decide (wlenS s = s.size) <;> cases kwS s <;> rfl
end Go.Proofs.YtcefhgomkehokaaGreat
