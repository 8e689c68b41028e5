/- payrollgen.SpoilExpr. -/
import Derived.Test.YtnlcenlamkfmnaaGreatQ2
import Derived.Test.YtnlcenlamkfmnaaGreatX10
import Derived.Test.YtnlcenlamkfmnaaGreatPvH
import Derived.Test.YtnlcenlamkfmnaaGreatX21b
set_option linter.unusedSimpArgs false
set_option linter.unusedVariables false
set_option maxRecDepth 100000
namespace Go.Proofs.YtnlcenlamkfmnaaGreat
theorem ocanQ {G : Pg} {N : Nat} {Γ : Fr} {st st' : PSt} {K : Exit → PSt → Prop} {ops : Array Oper} {l : List Oper} (hc : Can N Γ st st') (h : POps G N Γ ops l st' K) : POps G N Γ ops l st K := .mk fun ρ I a w hr => by
  obtain ⟨ρ', I', h1⟩ := hc ρ I a w hr
  exact h.go ρ' I' a w h1
/-- numbers in range, at most c kids each -/
inductive BK (c : Nat) : Ex → Prop where
  | nil : BK c .nil
  | mk {op vn vd um uh ud : Int} {nm : ByteArray} {cnt mode : Int} {nk : Nat} {kf : Nat → Ex} (h : -9223372036854775808 ≤ vn ∧ vn ≤ 9223372036854775807 ∧ nm.size ≤ 9223372036854775807) (hn : nk ≤ c) (hk : ∀ i, i < nk → BK c (kf i)) : BK c (.mk op vn vd um uh ud nm cnt mode nk kf)
theorem BK.bd {c : Nat} {e : Ex} (h : BK c e) : Bd e := by
  induction h with
  | nil => exact .nil
  | mk h _ _ ih => exact .mk h ih
theorem BK.mono {c c' : Nat} {e : Ex} (h : BK c e) (hc : c ≤ c') : BK c' e := by
  induction h with
  | nil => exact .nil
  | mk h hn _ ih => exact .mk h (by omega) ih
theorem BK.nk {c : Nat} {e : Ex} (h : BK c e) : e.nk ≤ c := by cases h with | nil => exact Nat.zero_le _ | mk _ h _ => exact h
theorem BK.k {c : Nat} {e : Ex} (h : BK c e) {i : Nat} (hi : i < e.nk) : BK c (e.kf i) := by cases h with | nil => exact absurd hi (Nat.not_lt_zero _) | mk _ _ h => exact h i hi
theorem BK.of_valid : ∀ (n : Nat) (e : Ex), validS n e = true → Bd e → BK 3 e
  | 0, _, h, _ => by cases h
  | n + 1, e, h, hb => by
    simp only [validS, Bool.and_eq_true, decide_eq_true_eq] at h
    obtain ⟨h1, _, h3⟩ := h
    have h3 := allK_iff.1 h3
    have hk := kidsN_le e.op
    have hk2 : e.nk ≤ 3 := by omega
    cases hb with
    | nil => exact .nil
    | mk hb hbk => exact .mk hb hk2 fun i hi => BK.of_valid n _ (h3 i hi) (hbk i hi)
theorem BK.set {c : Nat} {e : Ex} (h : BK c e) {op vn vd um uh ud : Int} {nm : ByteArray} {cnt mode : Int} (hb : -9223372036854775808 ≤ vn ∧ vn ≤ 9223372036854775807 ∧ nm.size ≤ 9223372036854775807) : BK c (.mk op vn vd um uh ud nm cnt mode e.nk e.kf) := .mk hb h.nk fun i hi => h.k hi
theorem updA_at {α : Type} {g : Nat → α} {i : Nat} {y : α} {a : Nat} : updA g i y a = if a = i then y else g a := rfl
abbrev eT : Ex := eOp 2 0 kn
theorem argEx' {mem : List Row} {L : List Nat} {op vn vd um uh ud : Int} {nm : ByteArray} {cnt mode : Int} {nk : Nat} {kf : Nat → Ex} {p : PV} (h : ArgOk mem L p (.vsl nk 10 (tF cX kf))) :
    ArgOk mem L (.agg 10 (nthP [vi op, vi vn, vi vd, vi um, vi uh, vi ud, vs nm, vi cnt, vi mode, p])) (vX (.mk op vn vd um uh ud nm cnt mode nk kf)) := argEx h
theorem argKx {mem : List Row} {L : List Nat} {l : Nat} {a : Ex} (hkc : a.kc = tF cX a.kf) (hr : rowAt mem l = some ⟨.own, false, 1, 10, fun x y => nthP [vi a.op, vi a.vn, vi a.vd, vi a.um, vi a.uh, vi a.ud, vs a.nm, vi a.cnt, vi a.mode, .vsl a.nk 10 (tF cX a.kf)] (x * 10 + y)⟩) (hL : l ∈ L) : ArgOk mem L (.lsl l 0 1) (.vsl 1 10 (tF cX (k1 a))) := by
  rw [← hkc] at hr
  exact argK1 (op := 0) (vn := 0) (vd := 0) (um := 0) (uh := 0) (ud := 0) (nm := ⟨#[]⟩) (cnt := 0) (mode := 0) hr hL
theorem argLslP {mem : List Row} {L : List Nat} {l n n' sz : Nat} {s : RS} {one : Bool} {f g : Nat → Nat → PV} (hr : rowAt mem l = some ⟨s, one, n', sz, g⟩) (hs : s.live) (hL : l ∈ L) (hn : n ≤ n') (hc : ∀ a, a < n → ∀ b, b < sz → ArgOk mem L (g a b) (f a b)) : ArgOk mem L (.lsl l 0 n) (.vsl n sz f) :=
  argLsl' (r := ⟨s, one, n', sz, g⟩) hr hs hL (by simpa using hn) fun a ha b hb => by rw [Nat.zero_add]; exact hc a ha b hb
theorem cellX {mem : List Row} {L : List Nat} {a1 a2 a3 a4 a5 a6 a7 a8 : Int} {nm : ByteArray} {p q : PV} (h : ArgOk mem L p q) : ∀ (i : Nat), i < 1 → ∀ j, j < 10 → ArgOk mem L (nthP [vi a1, vi a2, vi a3, vi a4, vi a5, vi a6, vs nm, vi a7, vi a8, p] j) (nthP [vi a1, vi a2, vi a3, vi a4, vi a5, vi a6, vs nm, vi a7, vi a8, q] j) := fun i hi j hj => by
  rcases c10 hj with rfl | rfl | rfl | rfl | rfl | rfl | rfl | rfl | rfl | rfl
  iterate 9 exact argVal
  exact h
theorem type_t : TapC G.P 27 [] (fun r => ∃ t, r = vT t ∧ (t = t0 ∨ t = tM ∨ t = tH ∨ t = tR ∨ t = tB)) := by
  have c1 := number_c
  have c2 := money_c
  have c3 := hours_c
  have c4 := rate_c
  have c5 := truth_c
  intro n g at_ hn h1 h2
  refine ptr_of (G := G.toPg) (fn := Tryz.f27) Tryz.func27 rfl rfl rfl ?_; intro Γ hk
  repeat' (first | refine yo ?_ ?_ | refine yw ?_ ?_ | refine yk ?_ ?_ | exact trivial | with_reducible refine wA ?_ ?_ | refine ys ?_ ?_ | refine xs_done ?_ | refine yl ?_ ?_ | (refine tn1 hn ?_; rintro at_ b1 b2 x hx1 hx2) | (refine tn2 hn ?_; rintro at_ b1 b2 x hx1 hx2) | refine z1 c1 ?_ | refine z2 c1 ?_ | refine z3 c1 ?_ | refine z4 c1 ?_ | refine z5 c1 ?_ | refine z1 c2 ?_ | refine z2 c2 ?_ | refine z3 c2 ?_ | refine z4 c2 ?_ | refine z5 c2 ?_ | refine z1 c3 ?_ | refine z2 c3 ?_ | refine z3 c3 ?_ | refine z4 c3 ?_ | refine z5 c3 ?_ | refine z1 c4 ?_ | refine z2 c4 ?_ | refine z3 c4 ?_ | refine z4 c4 ?_ | refine z5 c4 ?_ | refine z1 c5 ?_ | refine z2 c5 ?_ | refine z3 c5 ?_ | refine z4 c5 ?_ | refine z5 c5 ?_ | refine w8 ?_ | refine w9 ?_ | refine w1 ?_ | refine w2 ?_ | refine w3 ?_ | refine w4 ?_ | refine w5 ?_ | refine w6 ?_ | refine w7 ?_ | refine yo0 ?_ ?_ | refine yw0 ?_ ?_ | exact qq | fail)
  rcases (by omega : x = 0 ∨ x = 1 ∨ x = 2 ∨ x = 3 ∨ x = 4) with rfl | rfl | rfl | rfl | rfl
  all_goals
    repeat' (first | refine yo ?_ ?_ | refine yw ?_ ?_ | refine yk ?_ ?_ | exact trivial | with_reducible refine wA ?_ ?_ | refine ys ?_ ?_ | refine xs_done ?_ | refine yl ?_ ?_ | refine w8 ?_ | refine w9 ?_ | refine w1 ?_ | refine w2 ?_ | refine w3 ?_ | refine w4 ?_ | refine w5 ?_ | refine w6 ?_ | refine w7 ?_ | refine yo0 ?_ ?_ | refine yw0 ?_ ?_ | exact qq | fail)
    refine xdone ?_
  · exact ktap rfl b1 b2 rfl ⟨Nat.zero_lt_one, trivial⟩ rfl ⟨t0, rfl, by simp⟩
  · exact ktap rfl b1 b2 rfl ⟨Nat.zero_lt_one, trivial⟩ rfl ⟨tM, rfl, by simp⟩
  · exact ktap rfl b1 b2 rfl ⟨Nat.zero_lt_one, trivial⟩ rfl ⟨tH, rfl, by simp⟩
  · exact ktap rfl b1 b2 rfl ⟨Nat.zero_lt_one, trivial⟩ rfl ⟨tR, rfl, by simp⟩
  · exact ktap rfl b1 b2 rfl ⟨Nat.zero_lt_one, trivial⟩ rfl ⟨tB, rfl, by simp⟩
abbrev rZX : Row := ⟨.own, true, 1, 10, fun _ => nthP [vi 0, vi 0, vi 0, vi 0, vi 0, vi 0, vs ⟨#[]⟩, vi 0, vi 0, .val (.slice none 0 0)]⟩
abbrev SpX (c : Nat) (e : Ex) : Prop := TapC G.P 19 [vX e] (fun r => ∃ e', r = vX e' ∧ BK (c + 1) e')
abbrev SpPost (c n : Nat) (g : Nat → Int) : PV → Row → Prop := fun r row' => (∃ e', r = vX e' ∧ BK (c + 1) e') ∧ ∃ at' : Int, 0 ≤ at' ∧ at' ≤ n ∧ row' = tapeRow n g at'
set_option maxHeartbeats 8000000 in
theorem spoil_rest (c : Nat) (hc3 : 3 ≤ c) (hc : c ≤ 100) (hE : ∀ t, t = t0 ∨ t = tM ∨ t = tH ∨ t = tR ∨ t = tB → TapC G.P 16 [vT t, vi 2, vi 5] (fun r => ∃ e, r = vX e ∧ BK 3 e)) (e : Ex) (hb : BK c e) (n : Nat) (g : Nat → Int) (hn : n ≤ 9223372036854775807) (Γ : Fr) (hk : Γ.k0 = 1) (at_ : Int) (b1 : 0 ≤ at_) (b2 : at_ ≤ n) :
    PWp G.toPg Tryz.f19.ntmps Γ (dropS 2 (Tryz.f19.body.getD .skip)) ⟨[(0, .ptr 0 0 0), (3, .ptr 1 0 0), (4, .ptr 2 0 0)], [tapeRow n g at_, rX18 e, rZX]⟩ (KretP G.tab Tryz.f19.results.toList (SpPost c n g)) := by
  have hnk := hb.nk
  have hv := hb.bd.v
  have hs := hb.bd.s
  refine pseq ?_
  refine pcut (fun st => ∃ (at' : Int) (e' : Ex), 0 ≤ at' ∧ at' ≤ n ∧ BK (c + 1) e' ∧ e'.kc = tF cX e'.kf ∧ st = ⟨[(0, .ptr 0 0 0), (3, .ptr 1 0 0), (4, .ptr 2 0 0)], [tapeRow n g at', rX18 e', rZX]⟩) ?_ ?_
  · repeat' (first | refine yo ?_ ?_ | refine yw ?_ ?_ | refine yk ?_ ?_ | exact trivial | with_reducible refine wA ?_ ?_ | refine ys ?_ ?_ | refine xs_done ?_ | refine yl ?_ ?_ | (refine tn1 hn ?_; rintro at_ b1 b2 x hx1 hx2) | refine w8 ?_ | refine w9 ?_ | refine w1 ?_ | refine w2 ?_ | refine w3 ?_ | refine w4 ?_ | refine w5 ?_ | refine w6 ?_ | refine w7 ?_ | refine yo0 ?_ ?_ | refine yw0 ?_ ?_ | exact qq | fail)
    rcases (by omega : x = 0 ∨ x = 1 ∨ x = 2 ∨ x = 3 ∨ x = 4 ∨ x = 5 ∨ x = 6 ∨ x = 7 ∨ x = 8) with rfl | rfl | rfl | rfl | rfl | rfl | rfl | rfl | rfl
    · repeat' (first | refine yo ?_ ?_ | refine yw ?_ ?_ | refine yk ?_ ?_ | exact trivial | with_reducible refine wA ?_ ?_ | refine ys ?_ ?_ | refine xs_done ?_ | refine yl ?_ ?_ | (refine tn1 hn ?_; rintro at_ b1 b2 x hx1 hx2) | refine w8 ?_ | refine w9 ?_ | refine w1 ?_ | refine w2 ?_ | refine w3 ?_ | refine w4 ?_ | refine w5 ?_ | refine w6 ?_ | refine w7 ?_ | refine yo0 ?_ ?_ | refine yw0 ?_ ?_ | exact qq | fail)
      refine xdone ?_
      exact kcut (st' := ⟨[(0, .ptr 0 0 0), (3, .ptr 1 0 0), (4, .ptr 2 0 0)], [tapeRow n g _, rX18 (Ex.mk _ e.vn e.vd e.um e.uh e.ud e.nm e.cnt e.mode e.nk e.kf), rZX]⟩) (can_rowsv [0, 1, 2] (k0_sel hk rfl) rfl (.cons rfl (RowEq.cl (tape_cl _ _ _)) (.cons rfl (RowEq.cl (rX18_cl (Ex.mk _ e.vn e.vd e.um e.uh e.ud e.nm e.cnt e.mode e.nk e.kf))) (.cons rfl rqq .nil))) tmq) ⟨_, _, by assumption, by assumption, (hb.set ⟨hv.1, hv.2, hs⟩).mono (by omega), rfl, rfl⟩
    · repeat' (first | refine yo ?_ ?_ | refine yw ?_ ?_ | refine yk ?_ ?_ | exact trivial | with_reducible refine wA ?_ ?_ | refine ys ?_ ?_ | refine xs_done ?_ | refine yl ?_ ?_ | exact ⟨trivial, (by rw [hk]; exact Nat.le_of_ble_eq_true rfl), Nat.le_refl _, (show (0 + e.nk) * 104 ≤ 140737488355328 from by omega), (show 0 + e.nk ≤ 9223372036854775807 from by omega)⟩ | exact ⟨Nat.le_refl _, (by rw [hk]; exact Nat.le_of_ble_eq_true rfl), (show 0 + (0 + e.nk) ≤ 0 + e.nk from by omega), (show (0 + e.nk + 1) * 104 ≤ 140737488355328 from by omega), (show 0 + e.nk + 1 ≤ 9223372036854775807 from by omega)⟩ | refine w8 ?_ | refine w9 ?_ | refine w1 ?_ | refine w2 ?_ | refine w3 ?_ | refine w4 ?_ | refine w5 ?_ | refine w6 ?_ | refine w7 ?_ | refine yo0 ?_ ?_ | refine yw0 ?_ ?_ | exact qq | fail)
      refine xdone ?_
      refine kcut (st' := ⟨[(0, .ptr 0 0 0), (3, .ptr 1 0 0), (4, .ptr 2 0 0)], [tapeRow n g _, rX18 (Ex.mk e.op e.vn e.vd e.um e.uh e.ud e.nm e.cnt e.mode (e.nk + 1) (snocA e.nk e.kf eT)), rZX]⟩) ((can_frzb [6] 1 (fun _ => nthP [vi e.op, vi e.vn, vi e.vd, vi e.um, vi e.uh, vi e.ud, vs e.nm, vi e.cnt, vi e.mode, .vsl (e.nk + 1) 10 (tF cX (snocA e.nk e.kf eT))]) (tm := [(0, .ptr 0 0 0), (3, .ptr 1 0 0), (4, .ptr 2 0 0)]) (by intro l hl; rw [hk]; simp at hl; omega) rfl rfl rfl (fun i hi j hj => ?_) (by exact ⟨.inl rfl, .inl rfl, .inl rfl, trivial⟩)).trans (can_rowsv [0, 1, 2] (k0_sel hk rfl) rfl (.cons rfl (RowEq.cl (tape_cl _ _ _)) (.cons rfl (RowEq.cl (rX18_cl (Ex.mk e.op e.vn e.vd e.um e.uh e.ud e.nm e.cnt e.mode (e.nk + 1) (snocA e.nk e.kf eT)))) (.cons rfl rqq .nil))) tmq)) ⟨_, _, by assumption, by assumption, .mk ⟨hv.1, hv.2, hs⟩ (by omega) (fun i hi => ?_), rfl, rfl⟩
      · rcases c10 hj with rfl | rfl | rfl | rfl | rfl | rfl | rfl | rfl | rfl | rfl
        iterate 9 exact argVal
        show ArgOk _ _ (.lsl 6 0 (0 + e.nk + 1)) (.vsl (e.nk + 1) 10 (tF cX (snocA e.nk e.kf eT)))
        rw [Nat.zero_add e.nk]
        refine argLslP rfl trivial (List.Mem.head _) (Nat.le_refl _) fun a ha b hb => ?_
        show ArgOk _ _ (appF e.nk _ _ a b) (nthP (cX (snocA e.nk e.kf eT a)) b)
        unfold snocA
        by_cases e1 : a < e.nk
        · rw [appF_lt _ _ e1]
          show ArgOk _ _ (tF cX e.kf (0 + a) b) _
          rw [Nat.zero_add a, if_pos e1]
          exact argCl (tF_cl cX_cl e.kf a b)
        · obtain rfl : a = e.nk := by omega
          rw [appF_ge _ _ (Nat.le_refl _), Nat.sub_self, if_neg e1]
          have hb : b < 10 := hb
          rcases c10 hb with rfl | rfl | rfl | rfl | rfl | rfl | rfl | rfl | rfl | rfl
          iterate 9 exact argVal
          exact argNil
      · unfold snocA
        by_cases e1 : i < e.nk
        · rw [if_pos e1]; exact (hb.k e1).mono (by omega)
        · rw [if_neg e1]; exact .mk ⟨by decide, by decide, by decide⟩ (by omega) (fun i hi => absurd hi (Nat.not_lt_zero i))
    · repeat' (first | refine yo ?_ ?_ | refine yw ?_ ?_ | refine yk ?_ ?_ | exact trivial | with_reducible refine wA ?_ ?_ | refine ys ?_ ?_ | refine xs_done ?_ | refine yl ?_ ?_ | (refine tn1 hn ?_; rintro at_ b1 b2 x hx1 hx2) | refine w8 ?_ | refine w9 ?_ | refine w1 ?_ | refine w2 ?_ | refine w3 ?_ | refine w4 ?_ | refine w5 ?_ | refine w6 ?_ | refine w7 ?_ | refine yo0 ?_ ?_ | refine yw0 ?_ ?_ | exact qq | fail)
      rcases (by omega : x = 0 ∨ x = 1 ∨ x = 2 ∨ x = 3 ∨ x = 4 ∨ x = 5) with rfl | rfl | rfl | rfl | rfl | rfl
      all_goals
        repeat' (first | refine yo ?_ ?_ | refine yw ?_ ?_ | refine yk ?_ ?_ | exact trivial | with_reducible refine wA ?_ ?_ | refine ys ?_ ?_ | refine xs_done ?_ | refine yl ?_ ?_ | refine w8 ?_ | refine w9 ?_ | refine w1 ?_ | refine w2 ?_ | refine w3 ?_ | refine w4 ?_ | refine w5 ?_ | refine w6 ?_ | refine w7 ?_ | refine yo0 ?_ ?_ | refine yw0 ?_ ?_ | exact qq | fail)
        refine xdone ?_
        exact kcut (st' := ⟨[(0, .ptr 0 0 0), (3, .ptr 1 0 0), (4, .ptr 2 0 0)], [tapeRow n g _, rX18 (Ex.mk e.op e.vn e.vd e.um e.uh e.ud _ e.cnt e.mode e.nk e.kf), rZX]⟩) (can_rowsv [0, 1, 2] (k0_sel hk rfl) rfl (.cons rfl (RowEq.cl (tape_cl _ _ _)) (.cons rfl (RowEq.cl (rX18_cl (Ex.mk e.op e.vn e.vd e.um e.uh e.ud _ e.cnt e.mode e.nk e.kf))) (.cons rfl rqq .nil))) tmq) ⟨_, _, by assumption, by assumption, (hb.set ⟨hv.1, hv.2, by decide⟩).mono (by omega), rfl, rfl⟩
    · repeat' (first | refine yo ?_ ?_ | refine yw ?_ ?_ | refine yk ?_ ?_ | exact trivial | with_reducible refine wA ?_ ?_ | refine ys ?_ ?_ | refine xs_done ?_ | refine yl ?_ ?_ | (refine tn1 hn ?_; rintro at_ b1 b2 x hx1 hx2) | refine w8 ?_ | refine w9 ?_ | refine w1 ?_ | refine w2 ?_ | refine w3 ?_ | refine w4 ?_ | refine w5 ?_ | refine w6 ?_ | refine w7 ?_ | refine yo0 ?_ ?_ | refine yw0 ?_ ?_ | exact qq | fail)
      rcases (by omega : x = 0 ∨ x = 1 ∨ x = 2 ∨ x = 3) with rfl | rfl | rfl | rfl
      all_goals
        repeat' (first | refine yo ?_ ?_ | refine yw ?_ ?_ | refine yk ?_ ?_ | exact trivial | with_reducible refine wA ?_ ?_ | refine ys ?_ ?_ | refine xs_done ?_ | refine yl ?_ ?_ | refine w8 ?_ | refine w9 ?_ | refine w1 ?_ | refine w2 ?_ | refine w3 ?_ | refine w4 ?_ | refine w5 ?_ | refine w6 ?_ | refine w7 ?_ | refine yo0 ?_ ?_ | refine yw0 ?_ ?_ | exact qq | fail)
        refine xdone ?_
        exact kcut (st' := ⟨[(0, .ptr 0 0 0), (3, .ptr 1 0 0), (4, .ptr 2 0 0)], [tapeRow n g _, rX18 (Ex.mk e.op _ _ e.um e.uh e.ud e.nm e.cnt e.mode e.nk e.kf), rZX]⟩) (can_rowsv [0, 1, 2] (k0_sel hk rfl) rfl (.cons rfl (RowEq.cl (tape_cl _ _ _)) (.cons rfl (RowEq.cl (rX18_cl (Ex.mk e.op _ _ e.um e.uh e.ud e.nm e.cnt e.mode e.nk e.kf))) (.cons rfl rqq .nil))) tmq) ⟨_, _, by assumption, by assumption, (hb.set ⟨by decide, by decide, hs⟩).mono (by omega), rfl, rfl⟩
    · repeat' (first | refine yo ?_ ?_ | refine yw ?_ ?_ | refine yk ?_ ?_ | exact trivial | with_reducible refine wA ?_ ?_ | refine ys ?_ ?_ | refine xs_done ?_ | refine yl ?_ ?_ | (refine pop_tapl (G := G) rfl rfl rfl rfl rfl rfl rfl rfl rfl rfl rfl (by omega) rfl (fun _ => rfl) rfl (pick_t _ _ rfl (by decide) (by decide)) hn (by assumption) (by assumption) ?_; rintro at_ _ b1 b2 ⟨x, rfl, hx⟩; simp only [unL, List.mem_cons, List.not_mem_nil, or_false] at hx) | refine w8 ?_ | refine w9 ?_ | refine w1 ?_ | refine w2 ?_ | refine w3 ?_ | refine w4 ?_ | refine w5 ?_ | refine w6 ?_ | refine w7 ?_ | refine yo0 ?_ ?_ | refine yw0 ?_ ?_ | exact qq | fail)
      refine xdone ?_
      exact kcut (st' := ⟨[(0, .ptr 0 0 0), (3, .ptr 1 0 0), (4, .ptr 2 0 0)], [tapeRow n g _, rX18 (Ex.mk e.op e.vn e.vd _ _ _ e.nm e.cnt e.mode e.nk e.kf), rZX]⟩) (can_rowsv [0, 1, 2] (k0_sel hk rfl) rfl (.cons rfl (RowEq.cl (tape_cl _ _ _)) (.cons rfl (RowEq.cl (rX18_cl (Ex.mk e.op e.vn e.vd _ _ _ e.nm e.cnt e.mode e.nk e.kf))) (.cons rfl rqq .nil))) tmq) ⟨_, _, by assumption, by assumption, (hb.set ⟨hv.1, hv.2, hs⟩).mono (by omega), rfl, rfl⟩
    · repeat' (first | refine yo ?_ ?_ | refine yw ?_ ?_ | refine yk ?_ ?_ | exact trivial | with_reducible refine wA ?_ ?_ | refine ys ?_ ?_ | refine xs_done ?_ | refine yl ?_ ?_ | (refine pop_tapl (G := G) rfl rfl rfl rfl rfl rfl rfl rfl rfl rfl rfl (by omega) rfl (fun _ => rfl) rfl (pick_t _ _ rfl (by decide) (by decide)) hn (by assumption) (by assumption) ?_; rintro at_ _ b1 b2 ⟨x, rfl, hx⟩; simp only [unL, List.mem_cons, List.not_mem_nil, or_false] at hx) | refine w8 ?_ | refine w9 ?_ | refine w1 ?_ | refine w2 ?_ | refine w3 ?_ | refine w4 ?_ | refine w5 ?_ | refine w6 ?_ | refine w7 ?_ | refine yo0 ?_ ?_ | refine yw0 ?_ ?_ | exact qq | fail)
      refine xdone ?_
      exact kcut (st' := ⟨[(0, .ptr 0 0 0), (3, .ptr 1 0 0), (4, .ptr 2 0 0)], [tapeRow n g _, rX18 (Ex.mk e.op e.vn e.vd e.um e.uh e.ud e.nm _ e.mode e.nk e.kf), rZX]⟩) (can_rowsv [0, 1, 2] (k0_sel hk rfl) rfl (.cons rfl (RowEq.cl (tape_cl _ _ _)) (.cons rfl (RowEq.cl (rX18_cl (Ex.mk e.op e.vn e.vd e.um e.uh e.ud e.nm _ e.mode e.nk e.kf))) (.cons rfl rqq .nil))) tmq) ⟨_, _, by assumption, by assumption, (hb.set ⟨hv.1, hv.2, hs⟩).mono (by omega), rfl, rfl⟩
    · repeat' (first | refine yo ?_ ?_ | refine yw ?_ ?_ | refine yk ?_ ?_ | exact trivial | with_reducible refine wA ?_ ?_ | refine ys ?_ ?_ | refine xs_done ?_ | refine yl ?_ ?_ | (refine pop_tapl (G := G) rfl rfl rfl rfl rfl rfl rfl rfl rfl rfl rfl (by omega) rfl (fun _ => rfl) rfl (pick_t _ _ rfl (by decide) (by decide)) hn (by assumption) (by assumption) ?_; rintro at_ _ b1 b2 ⟨x, rfl, hx⟩; simp only [unL, List.mem_cons, List.not_mem_nil, or_false] at hx) | refine w8 ?_ | refine w9 ?_ | refine w1 ?_ | refine w2 ?_ | refine w3 ?_ | refine w4 ?_ | refine w5 ?_ | refine w6 ?_ | refine w7 ?_ | refine yo0 ?_ ?_ | refine yw0 ?_ ?_ | exact qq | fail)
      refine xdone ?_
      exact kcut (st' := ⟨[(0, .ptr 0 0 0), (3, .ptr 1 0 0), (4, .ptr 2 0 0)], [tapeRow n g _, rX18 (Ex.mk e.op e.vn e.vd e.um e.uh e.ud e.nm e.cnt _ e.nk e.kf), rZX]⟩) (can_rowsv [0, 1, 2] (k0_sel hk rfl) rfl (.cons rfl (RowEq.cl (tape_cl _ _ _)) (.cons rfl (RowEq.cl (rX18_cl (Ex.mk e.op e.vn e.vd e.um e.uh e.ud e.nm e.cnt _ e.nk e.kf))) (.cons rfl rqq .nil))) tmq) ⟨_, _, by assumption, by assumption, (hb.set ⟨hv.1, hv.2, hs⟩).mono (by omega), rfl, rfl⟩
    · repeat' (first | refine yo ?_ ?_ | refine yw ?_ ?_ | refine yk ?_ ?_ | exact trivial | with_reducible refine wA ?_ ?_ | refine ys ?_ ?_ | refine xs_done ?_ | refine yl ?_ ?_ | (refine t1 type_t hn ?_; rintro at_ _ b1 b2 ⟨t, rfl, ht⟩) | (refine t2 type_t hn ?_; rintro at_ _ b1 b2 ⟨t, rfl, ht⟩) | (refine t3 type_t hn ?_; rintro at_ _ b1 b2 ⟨t, rfl, ht⟩) | refine w8 ?_ | refine w9 ?_ | refine w1 ?_ | refine w2 ?_ | refine w3 ?_ | refine w4 ?_ | refine w5 ?_ | refine w6 ?_ | refine w7 ?_ | refine yo0 ?_ ?_ | refine yw0 ?_ ?_ | exact qq | fail)
      have hE2 := hE t ht
      repeat' (first | refine yo ?_ ?_ | refine yw ?_ ?_ | refine yk ?_ ?_ | exact trivial | with_reducible refine wA ?_ ?_ | refine ys ?_ ?_ | refine xs_done ?_ | refine yl ?_ ?_ | (refine t1 hE2 hn ?_; rintro at_ _ b1 b2 ⟨e2, rfl, he2⟩) | (refine t2 hE2 hn ?_; rintro at_ _ b1 b2 ⟨e2, rfl, he2⟩) | (refine t3 hE2 hn ?_; rintro at_ _ b1 b2 ⟨e2, rfl, he2⟩) | refine w8 ?_ | refine w9 ?_ | refine w1 ?_ | refine w2 ?_ | refine w3 ?_ | refine w4 ?_ | refine w5 ?_ | refine w6 ?_ | refine w7 ?_ | refine yo0 ?_ ?_ | refine yw0 ?_ ?_ | exact qq | fail)
      exact ktap rfl b1 b2 rfl ⟨Nat.zero_lt_one, trivial⟩ rfl ⟨e2, rfl, he2.mono (by omega)⟩
    · repeat' (first | refine yo ?_ ?_ | refine yw ?_ ?_ | refine yk ?_ ?_ | exact trivial | with_reducible refine wA ?_ ?_ | refine ys ?_ ?_ | refine xs_done ?_ | refine yl ?_ ?_ | (refine tn1 hn ?_; rintro at_ b1 b2 x hx1 hx2) | refine w8 ?_ | refine w9 ?_ | refine w1 ?_ | refine w2 ?_ | refine w3 ?_ | refine w4 ?_ | refine w5 ?_ | refine w6 ?_ | refine w7 ?_ | refine yo0 ?_ ?_ | refine yw0 ?_ ?_ | exact qq | fail)
      obtain ⟨y, rfl⟩ : ∃ y : Nat, x = y := ⟨x.toNat, by omega⟩
      refine pcan (st' := ⟨[(0, .ptr 0 0 0), (3, .ptr 1 0 0), (4, .ptr 2 0 0), (7, vi y)], [tapeRow n g at_, rX18 e, rZX]⟩) (can_rowsv [0, 1, 2] (k0_sel hk rfl) rfl (.cons rfl (RowEq.cl (tape_cl _ _ _)) (.cons rfl (RowEq.cl (rX18_cl e)) (.cons rfl rqq .nil))) tmq) ?_
      refine ploop (fun q st => ∃ (at' : Int) (e' : Ex) (y : Nat), 0 ≤ at' ∧ at' ≤ n ∧ y ≤ 40 ∧ q = y ∧ BK (c + 1) e' ∧ e'.kc = tF cX e'.kf ∧ st = ⟨[(0, .ptr 0 0 0), (3, .ptr 1 0 0), (4, .ptr 2 0 0), (7, vi y)], [tapeRow n g at', rX18 e', rZX]⟩) y ⟨at_, .mk e.op e.vn e.vd e.um e.uh e.ud e.nm e.cnt e.mode e.nk e.kf, y, b1, b2, by omega, rfl, (hb.set ⟨hv.1, hv.2, hs⟩).mono (by omega), rfl, rfl⟩ ?_
      clear b1 b2 hx1 hx2
      rintro q _ ⟨at', e', y, b1, b2, hy, hq, he', hkc, rfl⟩
      have hq := hq.symm
      subst hq
      repeat' (first | refine yo ?_ ?_ | refine yw ?_ ?_ | refine yk ?_ ?_ | exact trivial | with_reducible refine wA ?_ ?_ | refine ys ?_ ?_ | refine xs_done ?_ | refine yl ?_ ?_ | refine w8 ?_ | refine w9 ?_ | refine w1 ?_ | refine w2 ?_ | refine w3 ?_ | refine w4 ?_ | refine w5 ?_ | refine w6 ?_ | refine w7 ?_ | refine yo0 ?_ ?_ | refine yw0 ?_ ?_ | exact qq | fail)
      refine pcond rfl ?_ ?_ <;> intro hc1
      · have hc1 : 0 < y := by simpa using hc1
        have hwy : IntKind.i64.wrap ((y : Int) - 1) = ((y - 1 : Nat) : Int) := by rw [w64 (by omega) (by omega)]; omega
        repeat' (first | refine yo ?_ ?_ | refine yw ?_ ?_ | refine yk ?_ ?_ | exact trivial | with_reducible refine wA ?_ ?_ | refine ys ?_ ?_ | refine xs_done ?_ | refine yl ?_ ?_ | refine xs_startH (id := 11) [1,2] false [.take 0, .take 3] 5 rfl (by kernel_rfl) ?_ | refine BrAll.cons ?_ ?_ | exact BrAll.nil | refine xs_brT (n := 7) [0, 3] [(1, [], false, 4), (4, [.one 1, .one 2, .take 5, .one 6], true, 0)] (by decide +kernel) rfl (by kernel_rfl) (by kernel_rfl) ?_ | refine xs_brT (n := 7) [0, 1, 3] [(2, [.one 4, .take 5, .one 6], true, 0), (4, [.one 2, .take 5, .one 6], true, 0)] (by decide +kernel) rfl (by kernel_rfl) (by kernel_rfl) ?_ | refine ⟨_, [], true, rfl, rfl, stepOp_pst rfl ?_ ?_⟩ | (refine xs_one (ch := [_]) rfl rfl rfl (pst_tapl (G := G) rfl rfl rfl rfl rfl rfl rfl rfl rfl rfl rfl (by omega) rfl (fun _ => rfl) rfl (pick_t _ _ rfl (by decide) (by decide)) hn (by assumption) (by assumption) ?_); rintro at_ _ b1 b2 ⟨x, rfl, hx⟩; simp only [unL, List.mem_cons, List.not_mem_nil, or_false] at hx) | (refine ⟨_, [_], _, rfl, rfl, pst_tapl (G := G) rfl rfl rfl rfl rfl rfl rfl rfl rfl rfl rfl (by omega) rfl (fun _ => rfl) rfl (pick_t _ _ rfl (by decide) (by decide)) hn (by assumption) (by assumption) ?_⟩; rintro at_ _ b1 b2 ⟨x, rfl, hx⟩; simp only [unL, List.mem_cons, List.not_mem_nil, or_false] at hx) | refine w8 ?_ | refine w9 ?_ | refine w1 ?_ | refine w2 ?_ | refine w3 ?_ | refine w4 ?_ | refine w5 ?_ | refine w6 ?_ | refine w7 ?_ | refine yo0 ?_ ?_ | refine yw0 ?_ ?_ | exact qq | fail)
        all_goals
          refine xdone ?_
          rw [hwy]
          first
            | exact kloop_next (st' := ⟨[(0, .ptr 0 0 0), (3, .ptr 1 0 0), (4, .ptr 2 0 0), (7, vi ((y - 1 : Nat) : Int))], [tapeRow n g _, rX18 (eOp x 1 (k1 e')), rZX]⟩) (y - 1) ((can_frzb [3] 1 (fun _ => nthP [vi x, vi 0, vi 0, vi 0, vi 0, vi 0, vs ⟨#[]⟩, vi 0, vi 0, .vsl 1 10 (tF cX (k1 e'))]) (tm := [(0, .ptr 0 0 0), (3, .ptr 1 0 0), (4, .ptr 2 0 0), (7, vi ((y - 1 : Nat) : Int))]) (by intro l hl; rw [hk]; simp at hl; omega) rfl rfl rfl (cellX (argKx hkc rfl (List.Mem.head _))) (by exact ⟨.inl rfl, .inl rfl, .inl rfl, .inl rfl, trivial⟩)).trans (can_rowsv [0, 1, 2] (k0_sel hk rfl) rfl (.cons rfl (RowEq.cl (tape_cl _ _ _)) (.cons rfl (RowEq.cl (rX18_cl (eOp x 1 (k1 e')))) (.cons rfl rqq .nil))) tmq)) (by omega) ⟨_, eOp x 1 (k1 e'), y - 1, by assumption, by assumption, by omega, rfl, .mk ⟨by decide, by decide, by decide⟩ (by omega) (fun i hi => he'), rfl, rfl⟩
            | exact kloop_next (st' := ⟨[(0, .ptr 0 0 0), (3, .ptr 1 0 0), (4, .ptr 2 0 0), (7, vi ((y - 1 : Nat) : Int))], [tapeRow n g _, rX18 (eOp x 1 (k1 e')), rZX]⟩) (y - 1) ((can_frzb [4] 1 (fun _ => nthP [vi x, vi 0, vi 0, vi 0, vi 0, vi 0, vs ⟨#[]⟩, vi 0, vi 0, .vsl 1 10 (tF cX (k1 e'))]) (tm := [(0, .ptr 0 0 0), (3, .ptr 1 0 0), (4, .ptr 2 0 0), (7, vi ((y - 1 : Nat) : Int))]) (by intro l hl; rw [hk]; simp at hl; omega) rfl rfl rfl (cellX (argKx hkc rfl (List.Mem.head _))) (by exact ⟨.inl rfl, .inl rfl, .inl rfl, .inl rfl, trivial⟩)).trans (can_rowsv [0, 1, 2] (k0_sel hk rfl) rfl (.cons rfl (RowEq.cl (tape_cl _ _ _)) (.cons rfl (RowEq.cl (rX18_cl (eOp x 1 (k1 e')))) (.cons rfl rqq .nil))) tmq)) (by omega) ⟨_, eOp x 1 (k1 e'), y - 1, by assumption, by assumption, by omega, rfl, .mk ⟨by decide, by decide, by decide⟩ (by omega) (fun i hi => he'), rfl, rfl⟩
      · repeat' (first | refine yo ?_ ?_ | refine yw ?_ ?_ | refine yk ?_ ?_ | exact trivial | with_reducible refine wA ?_ ?_ | refine ys ?_ ?_ | refine xs_done ?_ | refine yl ?_ ?_ | refine w8 ?_ | refine w9 ?_ | refine w1 ?_ | refine w2 ?_ | refine w3 ?_ | refine w4 ?_ | refine w5 ?_ | refine w6 ?_ | refine w7 ?_ | refine yo0 ?_ ?_ | refine yw0 ?_ ?_ | exact qq | fail)
        refine xdone ?_
        exact kcut (st' := ⟨[(0, .ptr 0 0 0), (3, .ptr 1 0 0), (4, .ptr 2 0 0)], [tapeRow n g _, rX18 e', rZX]⟩) (can_rowsv [0, 1, 2] (k0_sel hk rfl) rfl (.cons rfl (RowEq.cl (tape_cl _ _ _)) (.cons rfl (RowEq.cl (rX18_cl e')) (.cons rfl rqq .nil))) tmq) ⟨_, e', by assumption, by assumption, he', hkc, rfl⟩
  · rintro _ ⟨at', e', b1, b2, he, hkc, rfl⟩
    repeat' (first | refine yo ?_ ?_ | refine yw ?_ ?_ | refine yk ?_ ?_ | exact trivial | with_reducible refine wA ?_ ?_ | refine ys ?_ ?_ | refine xs_done ?_ | refine yl ?_ ?_ | refine w8 ?_ | refine w9 ?_ | refine w1 ?_ | refine w2 ?_ | refine w3 ?_ | refine w4 ?_ | refine w5 ?_ | refine w6 ?_ | refine w7 ?_ | refine yo0 ?_ ?_ | refine yw0 ?_ ?_ | exact qq | fail)
    refine xdone ?_
    exact ktap rfl b1 b2 rfl ⟨Nat.zero_lt_one, trivial⟩ rfl ⟨e', by show _ = PV.agg 10 (nthP [_, _, _, _, _, _, _, _, _, .vsl e'.nk 10 e'.kc]); rw [hkc]; rfl, he⟩
set_option maxHeartbeats 8000000 in
theorem spoil_one (c : Nat) (hc3 : 3 ≤ c) (hc : c ≤ 100) (hE : ∀ t, t = t0 ∨ t = tM ∨ t = tH ∨ t = tR ∨ t = tB → TapC G.P 16 [vT t, vi 2, vi 5] (fun r => ∃ e, r = vX e ∧ BK 3 e)) (e : Ex) (hb : BK c e) (ih : ∀ i, i < e.nk → SpX c (e.kf i)) : SpX c e := by
  intro n g at_ hn h1 h2
  have hnk := hb.nk
  have hv := hb.bd.v
  have hs := hb.bd.s
  refine ptr_of (G := G.toPg) (fn := Tryz.f19) Tryz.func19 rfl rfl rfl ?_; intro Γ hk
  refine pseq ?_
  refine pcut (fun st => st = ⟨[(0, .ptr 0 0 0), (3, .ptr 1 0 0), (4, .ptr 2 0 0)], [tapeRow n g at_, rX18 e, rZX]⟩) ?_ ?_
  · repeat' (first | refine yo ?_ ?_ | refine yw ?_ ?_ | refine yk ?_ ?_ | exact trivial | with_reducible refine wA ?_ ?_ | refine ys ?_ ?_ | refine xs_done ?_ | refine yl ?_ ?_ | refine w8 ?_ | refine w9 ?_ | refine w1 ?_ | refine w2 ?_ | refine w3 ?_ | refine w4 ?_ | refine w5 ?_ | refine w6 ?_ | refine w7 ?_ | refine yo0 ?_ ?_ | refine yw0 ?_ ?_ | exact qq | fail)
    exact kcut (st' := ⟨[(0, .ptr 0 0 0), (3, .ptr 1 0 0), (4, .ptr 2 0 0)], [tapeRow n g at_, rX18 e, rZX]⟩) (can_rowsv [0, 1, 2] (k0_sel hk rfl) rfl (.cons rfl (RowEq.cl (tape_cl _ _ _)) (.cons rfl (var_eq ⟨PEq.refl _, PEq.refl _, PEq.refl _, PEq.refl _, PEq.refl _, PEq.refl _, PEq.refl _, PEq.refl _, PEq.refl _, peqK18 e, trivial⟩) (.cons rfl rqq .nil))) tmq) rfl
  rintro _ rfl
  refine pseq ?_
  refine pcut (fun st => ∃ (at' : Int), 0 ≤ at' ∧ at' ≤ n ∧ st = ⟨[(0, .ptr 0 0 0), (3, .ptr 1 0 0), (4, .ptr 2 0 0)], [tapeRow n g at', rX18 e, rZX]⟩) ?_ ?_
  refine pseq ?_
  refine pcut (fun st => ∃ (at' : Int) (x : Bool), 0 ≤ at' ∧ at' ≤ n ∧ (x = true → 0 < e.nk) ∧ st = ⟨[(0, .ptr 0 0 0), (3, .ptr 1 0 0), (4, .ptr 2 0 0), (16, vb x)], [tapeRow n g at', rX18 e, rZX]⟩) ?_ ?_
  · have hx : ∃ b, decide (0 < (e.nk : Int)) = b := ⟨_, rfl⟩
    obtain ⟨b, hb0⟩ := hx
    repeat' (first | refine yo ?_ ?_ | refine yw ?_ ?_ | refine yk ?_ ?_ | exact trivial | with_reducible refine wA ?_ ?_ | refine ys ?_ ?_ | refine xs_done ?_ | refine yl ?_ ?_ | refine w8 ?_ | refine w9 ?_ | refine w1 ?_ | refine w2 ?_ | refine w3 ?_ | refine w4 ?_ | refine w5 ?_ | refine w6 ?_ | refine w7 ?_ | refine yo0 ?_ ?_ | refine yw0 ?_ ?_ | exact qq | fail)
    rw [hb0]
    cases b
    · repeat' (first | refine yo ?_ ?_ | refine yw ?_ ?_ | refine yk ?_ ?_ | exact trivial | with_reducible refine wA ?_ ?_ | refine ys ?_ ?_ | refine xs_done ?_ | refine yl ?_ ?_ | (refine pop_gfalse rfl rfl rfl rfl ?_) | refine w8 ?_ | refine w9 ?_ | refine w1 ?_ | refine w2 ?_ | refine w3 ?_ | refine w4 ?_ | refine w5 ?_ | refine w6 ?_ | refine w7 ?_ | refine yo0 ?_ ?_ | refine yw0 ?_ ?_ | exact qq | fail)
      refine xdone ?_
      exact kcut (st' := ⟨[(0, .ptr 0 0 0), (3, .ptr 1 0 0), (4, .ptr 2 0 0), (16, vb false)], [tapeRow n g at_, rX18 e, rZX]⟩) (can_rowsv [0, 1, 2] (k0_sel hk rfl) rfl (.cons rfl (RowEq.cl (tape_cl _ _ _)) (.cons rfl (RowEq.cl (rX18_cl e)) (.cons rfl rqq .nil))) tmq) ⟨at_, false, h1, h2, (fun h => by cases h), rfl⟩
    · have hpos : 0 < e.nk := by simpa using hb0
      repeat' (first | refine yo ?_ ?_ | refine yw ?_ ?_ | refine yk ?_ ?_ | exact trivial | with_reducible refine wA ?_ ?_ | refine ys ?_ ?_ | refine xs_done ?_ | refine yl ?_ ?_ | (refine pop_opt 13 rfl rfl ?_) | (refine pop_unguard rfl rfl ?_) | (refine tn1 hn ?_; rintro at_ b1 b2 x hx1 hx2) | refine w8 ?_ | refine w9 ?_ | refine w1 ?_ | refine w2 ?_ | refine w3 ?_ | refine w4 ?_ | refine w5 ?_ | refine w6 ?_ | refine w7 ?_ | refine yo0 ?_ ?_ | refine yw0 ?_ ?_ | exact qq | fail)
      refine xdone ?_
      exact kcut (st' := ⟨[(0, .ptr 0 0 0), (3, .ptr 1 0 0), (4, .ptr 2 0 0), (16, vb _)], [tapeRow n g _, rX18 e, rZX]⟩) (can_rowsv [0, 1, 2] (k0_sel hk rfl) rfl (.cons rfl (RowEq.cl (tape_cl _ _ _)) (.cons rfl (RowEq.cl (rX18_cl e)) (.cons rfl rqq .nil))) tmq) ⟨_, _, b1, b2, (fun _ => hpos), rfl⟩
  rintro _ ⟨at', x, b1, b2, hx, rfl⟩
  refine pcond rfl ?_ ?_
  · intro hc1
    have hpos := hx hc1
    repeat' (first | refine yo ?_ ?_ | refine yw ?_ ?_ | refine yk ?_ ?_ | exact trivial | with_reducible refine wA ?_ ?_ | refine ys ?_ ?_ | refine xs_done ?_ | refine yl ?_ ?_ | (refine tn1 hn ?_; rintro at_ b1 b2 x hx1 hx2) | exact ⟨trivial, (by rw [hk]; exact Nat.le_of_ble_eq_true rfl), Nat.le_refl _, (show (0 + e.nk) * 104 ≤ 140737488355328 from by omega), (show 0 + e.nk ≤ 9223372036854775807 from by omega)⟩ | refine w8 ?_ | refine w9 ?_ | refine w1 ?_ | refine w2 ?_ | refine w3 ?_ | refine w4 ?_ | refine w5 ?_ | refine w6 ?_ | refine w7 ?_ | refine yo0 ?_ ?_ | refine yw0 ?_ ?_ | exact qq | fail)
    have hxk : x.toNat < e.nk := by omega
    have ihx : SpX c (e.kf (0 + x.toNat - 0)) := by rw [show 0 + x.toNat - 0 = x.toNat by omega]; exact ih _ hxk
    repeat' (first | refine yo ?_ ?_ | refine yw ?_ ?_ | refine yk ?_ ?_ | exact trivial | with_reducible refine wA ?_ ?_ | refine ys ?_ ?_ | refine xs_done ?_ | refine yl ?_ ?_ | (refine t1 ihx hn ?_; rintro at_ _ b1 b2 ⟨e2, rfl, he2⟩) | (refine t2 ihx hn ?_; rintro at_ _ b1 b2 ⟨e2, rfl, he2⟩) | (refine t3 ihx hn ?_; rintro at_ _ b1 b2 ⟨e2, rfl, he2⟩) | refine w8 ?_ | refine w9 ?_ | refine w1 ?_ | refine w2 ?_ | refine w3 ?_ | refine w4 ?_ | refine w5 ?_ | refine w6 ?_ | refine w7 ?_ | refine yo0 ?_ ?_ | refine yw0 ?_ ?_ | exact qq | fail)
    rw [Nat.zero_add e.nk, Nat.zero_add x.toNat]
    refine ktapL [4] rfl b1 b2 (by intro l hl; simp at hl; omega) rfl ⟨Nat.zero_lt_one, trivial⟩ (qs := [vX (Ex.mk e.op e.vn e.vd e.um e.uh e.ud e.nm e.cnt e.mode e.nk (updA e.kf x.toNat e2))]) ⟨argEx' (argLslP rfl trivial (List.Mem.head _) (Nat.le_refl _) fun a ha b hb2 => ?_), trivial⟩ ⟨_, rfl, .mk ⟨hv.1, hv.2, hs⟩ (by omega) fun i hi => ?_⟩
    · show ArgOk _ _ ((cond (Nat.beq a x.toNat) (nthP (cX e2)) (tF cX e.kf a)) b) (nthP (cX (updA e.kf x.toNat e2 a)) b)
      unfold updA
      by_cases e1 : a = x.toNat
      · rw [if_pos e1, e1, show Nat.beq x.toNat x.toNat = true from Nat.beq_refl _]
        exact argCl (clL_nth _ b (cX_cl e2))
      · have eb : Nat.beq a x.toNat = false := by cases hb2 : Nat.beq a x.toNat; rfl; exact absurd (Nat.eq_of_beq_eq_true hb2) e1
        rw [if_neg e1, eb, cond_false]
        exact argCl (tF_cl cX_cl e.kf a b)
    · unfold updA
      by_cases e1 : i = x.toNat
      · rw [if_pos e1]; exact he2
      · rw [if_neg e1]; exact (hb.k hi).mono (by omega)
  · intro hc1
    repeat' (first | refine yo ?_ ?_ | refine yw ?_ ?_ | refine yk ?_ ?_ | exact trivial | with_reducible refine wA ?_ ?_ | refine ys ?_ ?_ | refine xs_done ?_ | refine yl ?_ ?_ | refine w8 ?_ | refine w9 ?_ | refine w1 ?_ | refine w2 ?_ | refine w3 ?_ | refine w4 ?_ | refine w5 ?_ | refine w6 ?_ | refine w7 ?_ | refine yo0 ?_ ?_ | refine yw0 ?_ ?_ | exact qq | fail)
    exact kcut (st' := ⟨[(0, .ptr 0 0 0), (3, .ptr 1 0 0), (4, .ptr 2 0 0)], [tapeRow n g at', rX18 e, rZX]⟩) (can_rowsv [0, 1, 2] (k0_sel hk rfl) rfl (.cons rfl (RowEq.cl (tape_cl _ _ _)) (.cons rfl (RowEq.cl (rX18_cl e)) (.cons rfl rqq .nil))) tmq) ⟨at', b1, b2, rfl⟩
  · rintro _ ⟨at', b1, b2, rfl⟩
    exact spoil_rest c hc3 hc hE e hb n g hn Γ hk at' b1 b2
end Go.Proofs.YtnlcenlamkfmnaaGreat
