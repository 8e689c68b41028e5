/- payrollgen: Past. -/
import Derived.Test.YtdifpajpheemaaaGreatDoorA18
import Derived.Test.YtdifpajpheemaaaGreatDoorA13
set_option linter.unusedSimpArgs false
set_option linter.unusedVariables false
set_option maxRecDepth 100000
namespace Go.Proofs.YtdifpajpheemaaaGreatDoor
abbrev rPs (k0 k1 : Nat) : Row := ⟨.own, false, 2, 2, fun x y => nthP [vs n_gross, slP k0 2, vs n_time, slP k1 3] (x * 2 + y)⟩
def Sml (l : List (Int × Int)) : Prop := ∀ x, x ∈ l → -1000 ≤ x.1 ∧ x.1 ≤ 1000
theorem Sml.snoc {l : List (Int × Int)} (h : Sml l) {a b : Int} (h1 : -1000 ≤ a) (h2 : a ≤ 1000) : Sml (l ++ [(a, b)]) := fun x hx => by
  rcases List.mem_append.1 hx with hx | hx
  · exact h x hx
  · obtain rfl : x = (a, b) := by simpa using hx
    exact ⟨h1, h2⟩
theorem Sml.at {l : List (Int × Int)} (h : Sml l) (i : Nat) : -1000 ≤ (lF (0, 0) l i).1 ∧ (lF (0, 0) l i).1 ≤ 1000 := by
  unfold lF
  rw [List.getD_eq_getElem?_getD]
  by_cases hi : i < l.length
  · rw [List.getElem?_eq_getElem hi]; exact h _ (List.getElem_mem hi)
  · rw [List.getElem?_eq_none (by omega)]; exact ⟨by decide, by decide⟩
theorem c2 {b : Nat} (h : b < 2) : b = 0 ∨ b = 1 := by omega
theorem ps_eq {τ : Nat → Option Nat} {r : Row} {k0 k1 : Nat} (hs : r.s = .own) (ho : r.one = false) (hz : r.sz = 2) (hn : 2 ≤ r.n) (h00 : r.f 0 0 = vs n_gross) (h10 : r.f 1 0 = vs n_time) (h01 : PEq ((r.f 0 1).ren τ) (slP k0 2)) (h11 : PEq ((r.f 1 1).ren τ) (slP k1 3)) : RowEq (r.ren τ) (rPs k0 k1) :=
  ⟨hs.symm, hz.symm, hn, fun i hi j hj => by
    rcases c2 (show i < 2 from hi) with rfl | rfl <;> rcases c2 (show j < 2 from hj) with rfl | rfl
    · show PEq ((r.f 0 0).ren τ) (vs n_gross); rw [h00]; exact PEq.refl _
    · exact h01
    · show PEq ((r.f 1 0).ren τ) (vs n_time); rw [h10]; exact PEq.refl _
    · exact h11⟩
theorem argSl {mem : List Row} {L : List Nat} {l k : Nat} {f : Nat → Nat → PV} {g : Nat → Int × Int} {n : Nat} (hr : rowAt mem l = some ⟨.own, false, n, 2, f⟩) (hn : k ≤ n) (hL : l ∈ L) (hf : ∀ a, a < k → ∀ b, b < 2 → f a b = nthP (cPr (g a)) b) : ArgOk mem L (slP k l) (.vsl k 2 (tF cPr g)) := by
  cases k with
  | zero => exact argNil
  | succ k => exact argLsl (r := ⟨.own, false, n, 2, f⟩) hr trivial hL (by simpa using hn) fun a ha b hb => ⟨by rw [Nat.zero_add]; exact hf a ha b hb, tF_cl (c := cPr) (fun _ => ⟨trivial, trivial, trivial⟩) g a b⟩
theorem argPas {mem : List Row} {L : List Nat} {l n k0 k1 : Nat} {f : Nat → Nat → PV} {f0 f1 : Nat → Int × Int} (hr : rowAt mem l = some ⟨.own, false, n, 2, f⟩) (hn : 2 ≤ n) (hL : l ∈ L) (h00 : f 0 0 = vs n_gross) (h10 : f 1 0 = vs n_time) (h01 : ArgOk mem L (f 0 1) (.vsl k0 2 (tF cPr f0))) (h11 : ArgOk mem L (f 1 1) (.vsl k1 2 (tF cPr f1))) : ArgOk mem L (.lsl l 0 2) (vPas [⟨n_gross, k0, f0⟩, ⟨n_time, k1, f1⟩]) :=
  argLsl' (r := ⟨.own, false, n, 2, f⟩) hr trivial hL (by simpa using hn) fun x hx y hy => by
    rw [Nat.zero_add]
    rcases c2 hx with rfl | rfl <;> rcases c2 (show y < 2 from hy) with rfl | rfl
    · show ArgOk mem L (f 0 0) (vs n_gross); rw [h00]; exact argVal
    · exact h01
    · show ArgOk mem L (f 1 0) (vs n_time); rw [h10]; exact argVal
    · exact h11
def set0 {α : Type} (y : α) (g : Nat → α) : Nat → α
  | 0 => y
  | a + 1 => g (a + 1)
theorem bdp_s (nm : ByteArray) {k : Nat} {l : List (Int × Int)} (hk : k ≤ 4) (hs : Sml l) : BdP ⟨nm, k, lF (0, 0) l⟩ := ⟨by show k ≤ 1000000000; omega, fun i _ => by have := hs.at i; dsimp only; omega⟩
theorem bdp_0 (nm : ByteArray) (f : Nat → Int × Int) : BdP ⟨nm, 0, f⟩ := ⟨Nat.zero_le _, fun i hi => absurd hi (Nat.not_lt_zero i)⟩
theorem bdp_1 (nm : ByteArray) {k : Nat} {l : List (Int × Int)} {u v : Int} (hk : k ≤ 4) (hs : Sml l) (h1 : -9223372036854775808 ≤ u) (h2 : u ≤ 9223372036854775807) : BdP ⟨nm, k, set0 (u, v) (lF (0, 0) l)⟩ := ⟨by show k ≤ 1000000000; omega, fun i _ => by
  cases i with
  | zero => exact ⟨h1, h2⟩
  | succ i => have := hs.at (i + 1); dsimp only [set0]; omega⟩
set_option maxHeartbeats 8000000 in
theorem past_t : TapC G.P 17 [] (fun r => ∃ (k0 k1 : Nat) (f0 f1 : Nat → Int × Int), r = vPas [⟨n_gross, k0, f0⟩, ⟨n_time, k1, f1⟩] ∧ BdP ⟨n_gross, k0, f0⟩ ∧ BdP ⟨n_time, k1, f1⟩) := by
  have next4_t : TapC G.P 15 [vi 4] (fun r => ∃ x : Nat, r = vi x ∧ x < 4) := (next_t 4 (by omega)).mono fun r ⟨x, h, h1, h2⟩ => ⟨x.toNat, by rw [h]; congr; omega, by omega⟩
  have next2_t : TapC G.P 15 [vi 2] (fun r => ∃ x : Int, r = vi x ∧ (x = 0 ∨ x = 1)) := (next_t 2 (by omega)).mono fun r ⟨x, h, h1, h2⟩ => ⟨x, h, by omega⟩
  have cPc : CellsCl cPr := fun _ => ⟨trivial, trivial, trivial⟩
  intro n g at_ hn h1 h2
  refine ptr_of (G := G.toPg) (fn := Tryz.f17) Tryz.func17 rfl rfl rfl ?_; intro Γ hk
  repeat' (first | refine yo ?_ ?_ | refine yw ?_ ?_ | refine yk ?_ ?_ | exact trivial | with_reducible refine wA ?_ ?_ | refine ys ?_ ?_ | refine xs_done ?_ | refine yl ?_ ?_ | refine w8 ?_ | refine w9 ?_ | refine w1 ?_ | refine w2 ?_ | refine w3 ?_ | refine w4 ?_ | refine w5 ?_ | refine w6 ?_ | refine w7 ?_ | refine yo0 ?_ ?_ | refine yw0 ?_ ?_ | exact qq | fail)
  refine pcan (can_virt (vRow cPr 2 0 (lF (0, 0) [])) rfl) ?_
  refine pcan (can_virt (vRow cPr 2 0 (lF (0, 0) [])) rfl) ?_
  refine pcan (st' := ⟨[(0, .ptr 0 0 0), (3, .lsl 1 0 2), (4, vi ((0 : Nat) : Int))], [tapeRow n g at_, rPs 0 0, vRow cPr 2 0 (lF (0, 0) []), vRow cPr 2 0 (lF (0, 0) [])]⟩) (can_rowsv [0, 1, 2, 3] (k0_sel hk rfl) rfl (.cons rfl (RowEq.cl (tape_cl _ _ _)) (.cons rfl (ps_eq rfl rfl rfl (Nat.le_refl _) rfl rfl (PEq.refl _) (PEq.refl _)) (.cons rfl (RowEq.cl (v_cl cPc _ _ _)) (.cons rfl (RowEq.cl (v_cl cPc _ _ _)) .nil)))) tmq) ?_
  refine ploop (fun q st => ∃ (at' : Int) (i k0 k1 : Nat) (l0 l1 : List (Int × Int)), 0 ≤ at' ∧ at' ≤ n ∧ q = 2 - i ∧ (i = 0 ∧ k0 = 0 ∧ k1 = 0 ∨ i = 1 ∧ 0 < k0 ∧ k1 = 0 ∨ i = 2 ∧ 0 < k0 ∧ 0 < k1) ∧ k0 ≤ 4 ∧ k1 ≤ 4 ∧ l0.length = k0 ∧ l1.length = k1 ∧ Sml l0 ∧ Sml l1 ∧ st = ⟨[(0, .ptr 0 0 0), (3, .lsl 1 0 2), (4, vi i)], [tapeRow n g at', rPs k0 k1, vRow cPr 2 k0 (lF (0, 0) l0), vRow cPr 2 k1 (lF (0, 0) l1)]⟩) 2 ⟨at_, 0, 0, 0, [], [], h1, h2, rfl, .inl ⟨rfl, rfl, rfl⟩, by omega, by omega, rfl, rfl, fun x hx => by simp at hx, fun x hx => by simp at hx, rfl⟩ ?_
  rintro _ _ ⟨at', i, k0, k1, l0, l1, b1, b2, rfl, hi, hk0, hk1, hl0, hl1, hs0, hs1, rfl⟩
  rcases hi with ⟨rfl, rfl, rfl⟩ | ⟨rfl, hp0, rfl⟩ | ⟨rfl, hp0, hp1⟩
  · repeat' (first | refine yo ?_ ?_ | refine yw ?_ ?_ | refine yk ?_ ?_ | exact trivial | with_reducible refine wA ?_ ?_ | refine ys ?_ ?_ | refine xs_done ?_ | refine yl ?_ ?_ | (refine t1 next4_t hn ?_; rintro at_ _ b1 b2 ⟨x, rfl, hx⟩) | (refine t2 next4_t hn ?_; rintro at_ _ b1 b2 ⟨x, rfl, hx⟩) | (refine t3 next4_t hn ?_; rintro at_ _ b1 b2 ⟨x, rfl, hx⟩) | refine w8 ?_ | refine w9 ?_ | refine w1 ?_ | refine w2 ?_ | refine w3 ?_ | refine w4 ?_ | refine w5 ?_ | refine w6 ?_ | refine w7 ?_ | refine yo0 ?_ ?_ | refine yw0 ?_ ?_ | exact qq | fail)
    rw [show IntKind.i64.wrap (1 + (x : Int)) = ((x + 1 : Nat) : Int) from by rw [w64 (by omega) (by omega)]; omega]
    refine pcan (st' := ⟨[(0, .ptr 0 0 0), (3, .lsl 1 0 2), (4, vi ((0 : Nat) : Int)), (5, vi ((x + 1 : Nat) : Int))], [tapeRow n g at_, rPs 0 0, vRow cPr 2 0 (lF (0, 0) l0), vRow cPr 2 0 (lF (0, 0) l1)]⟩) (can_rowsv [0, 1, 2, 3] (k0_sel hk rfl) rfl (.cons rfl (RowEq.cl (tape_cl _ _ _)) (.cons rfl (ps_eq rfl rfl rfl (Nat.le_refl _) rfl rfl (PEq.refl _) (PEq.refl _)) (.cons rfl (RowEq.cl (v_cl cPc _ _ _)) (.cons rfl (RowEq.cl (v_cl cPc _ _ _)) .nil)))) tmq) ?_
    refine ploop (fun q st => ∃ (at' : Int) (m k0 : Nat) (l0 : List (Int × Int)), 0 ≤ at' ∧ at' ≤ n ∧ q = m ∧ k0 + m = x + 1 ∧ l0.length = k0 ∧ Sml l0 ∧ st = ⟨[(0, .ptr 0 0 0), (3, .lsl 1 0 2), (4, vi ((0 : Nat) : Int)), (5, vi m)], [tapeRow n g at', rPs k0 0, vRow cPr 2 k0 (lF (0, 0) l0), vRow cPr 2 0 (lF (0, 0) l1)]⟩) (x + 1) ⟨at_, x + 1, 0, l0, b1, b2, rfl, by omega, hl0, hs0, rfl⟩ ?_
    clear hl0 hs0 b1 b2 l0
    rintro q _ ⟨at', m, k0, l0, b1, b2, hq, hkm, hl, hs, rfl⟩
    have hq := hq.symm
    subst hq
    repeat' (first | refine yo ?_ ?_ | refine yw ?_ ?_ | refine yk ?_ ?_ | exact trivial | with_reducible refine wA ?_ ?_ | refine ys ?_ ?_ | refine xs_done ?_ | refine yl ?_ ?_ | refine w8 ?_ | refine w9 ?_ | refine w1 ?_ | refine w2 ?_ | refine w3 ?_ | refine w4 ?_ | refine w5 ?_ | refine w6 ?_ | refine w7 ?_ | refine yo0 ?_ ?_ | refine yw0 ?_ ?_ | exact qq | fail)
    refine pcond rfl ?_ ?_ <;> intro hc <;> simp at hc
    · obtain ⟨m, rfl⟩ : ∃ m', m = m' + 1 := ⟨m - 1, by omega⟩
      have hw : IntKind.i64.wrap (((m + 1 : Nat) : Int) - 1) = (m : Int) := by rw [w64 (by omega) (by omega)]; omega
      rcases k0 with _ | k0
      all_goals
        repeat' (first | refine yo ?_ ?_ | refine yw ?_ ?_ | refine yk ?_ ?_ | exact trivial | with_reducible refine wA ?_ ?_ | refine ys ?_ ?_ | refine xs_done ?_ | refine yl ?_ ?_ | refine xs_start (id := 13) true [.take 0, .take 1, .take 6, .one 2, .take 3, .take 4, .take 5, .one 7, .take 8, .one 9] 0 rfl rfl (by kernel_rfl) ?_ | refine xs_startH (id := 8) [3] false [.take 0, .take 1, .take 2, .take 3, .take 7] 9 rfl (by kernel_rfl) ?_ | refine BrAll.cons ?_ ?_ | exact BrAll.nil | refine xs_brT (n := 14) [0, 1, 2, 3, 7] [(4, [], false, 8), (8, [], false, 8)] (by decide +kernel) rfl (by kernel_rfl) (by kernel_rfl) ?_ | refine xs_brT (n := 14) [0, 1, 2, 3, 7, 8] [(4, [], false, 7), (9, [.one 4, .one 5, .one 6, .one 10, .one 11, .one 12, .one 13], true, 0)] (by decide +kernel) rfl (by kernel_rfl) (by kernel_rfl) ?_ | refine xs_brT (n := 14) [0, 1, 2, 3, 4, 7, 8] [(5, [], false, 6), (9, [.one 5, .one 6, .one 10, .one 11, .one 12, .one 13], true, 0)] (by decide +kernel) rfl (by kernel_rfl) (by kernel_rfl) ?_ | refine xs_brT (n := 14) [0, 1, 2, 3, 4, 5, 7, 8] [(6, [.one 9, .one 10, .one 11, .one 12, .one 13], true, 0), (9, [.one 6, .one 10, .one 11, .one 12, .one 13], true, 0)] (by decide +kernel) rfl (by kernel_rfl) (by kernel_rfl) ?_ | refine xs_brT (n := 14) [0, 1, 2, 3, 4, 7] [(5, [], false, 7), (8, [], false, 7)] (by decide +kernel) rfl (by kernel_rfl) (by kernel_rfl) ?_ | refine xs_brT (n := 14) [0, 1, 2, 3, 4, 5, 7] [(6, [.one 8, .one 9, .one 10, .one 11, .one 12, .one 13], true, 0), (8, [], false, 6)] (by decide +kernel) rfl (by kernel_rfl) (by kernel_rfl) ?_ | refine ⟨_, [], true, rfl, rfl, stepOp_pst rfl ?_ ?_⟩ | exact ⟨Nat.le_refl _, (by rw [hk]; exact Nat.le_of_ble_eq_true rfl), Nat.le_of_eq (Nat.zero_add _), (show (_ : Nat) * 16 ≤ 140737488355328 from by omega), (show (_ : Nat) ≤ 9223372036854775807 from by omega)⟩ | (refine t1 small_t hn ?_; rintro at_ _ b1 b2 ⟨a, b, rfl, ha1, ha2, hb⟩) | (refine t2 small_t hn ?_; rintro at_ _ b1 b2 ⟨a, b, rfl, ha1, ha2, hb⟩) | (refine t3 small_t hn ?_; rintro at_ _ b1 b2 ⟨a, b, rfl, ha1, ha2, hb⟩) | refine w8 ?_ | refine w9 ?_ | refine w1 ?_ | refine w2 ?_ | refine w3 ?_ | refine w4 ?_ | refine w5 ?_ | refine w6 ?_ | refine w7 ?_ | refine yo0 ?_ ?_ | refine yw0 ?_ ?_ | exact qq | fail)
        all_goals
          refine xdone ?_
          rw [hw]
          first
            | exact kloop_next (st' := ⟨[(0, .ptr 0 0 0), (3, .lsl 1 0 2), (4, vi ((0 : Nat) : Int)), (5, vi (m : Int))], [tapeRow n g _, rPs (0 + 1) 0, vRow cPr 2 (0 + 1) (lF (0, 0) (l0 ++ [(a, b)])), vRow cPr 2 0 (lF (0, 0) l1)]⟩) m (can_rowsv [0, 1, 5, 3] (k0_sel hk rfl) rfl (.cons rfl (RowEq.cl (tape_cl _ _ _)) (.cons rfl (ps_eq rfl rfl rfl (Nat.le_refl _) rfl rfl (PEq.refl _) (PEq.refl _)) (.cons rfl (app_l0 cPc hl rfl) (.cons rfl (RowEq.cl (v_cl cPc _ _ _)) .nil)))) tmq) (by omega) ⟨_, m, 0 + 1, l0 ++ [(a, b)], by assumption, by assumption, rfl, by omega, by rw [List.length_append, hl]; rfl, hs.snoc ha1 ha2, rfl⟩
            | exact kloop_next (st' := ⟨[(0, .ptr 0 0 0), (3, .lsl 1 0 2), (4, vi ((0 : Nat) : Int)), (5, vi (m : Int))], [tapeRow n g _, rPs (k0 + 1 + 1) 0, vRow cPr 2 (k0 + 1 + 1) (lF (0, 0) (l0 ++ [(a, b)])), vRow cPr 2 0 (lF (0, 0) l1)]⟩) m (can_rowsv [0, 1, 5, 3] (k0_sel hk rfl) rfl (.cons rfl (RowEq.cl (tape_cl _ _ _)) (.cons rfl (ps_eq rfl rfl rfl (Nat.le_refl _) rfl rfl (PEq.refl _) (PEq.refl _)) (.cons rfl (app_l cPc hl rfl rfl) (.cons rfl (RowEq.cl (v_cl cPc _ _ _)) .nil)))) tmq) (by omega) ⟨_, m, k0 + 1 + 1, l0 ++ [(a, b)], by assumption, by assumption, rfl, by omega, by rw [List.length_append, hl]; rfl, hs.snoc ha1 ha2, rfl⟩
    · obtain rfl : m = 0 := by omega
      repeat' (first | refine yo ?_ ?_ | refine yw ?_ ?_ | refine yk ?_ ?_ | exact trivial | with_reducible refine wA ?_ ?_ | refine ys ?_ ?_ | refine xs_done ?_ | refine yl ?_ ?_ | refine w8 ?_ | refine w9 ?_ | refine w1 ?_ | refine w2 ?_ | refine w3 ?_ | refine w4 ?_ | refine w5 ?_ | refine w6 ?_ | refine w7 ?_ | refine yo0 ?_ ?_ | refine yw0 ?_ ?_ | exact qq | fail)
      refine xdone ?_
      exact kloop_next (st' := ⟨[(0, .ptr 0 0 0), (3, .lsl 1 0 2), (4, vi ((1 : Nat) : Int))], [tapeRow n g _, rPs k0 0, vRow cPr 2 k0 (lF (0, 0) l0), vRow cPr 2 0 (lF (0, 0) l1)]⟩) 1 (can_rowsv [0, 1, 2, 3] (k0_sel hk rfl) rfl (.cons rfl (RowEq.cl (tape_cl _ _ _)) (.cons rfl (ps_eq rfl rfl rfl (Nat.le_refl _) rfl rfl (peq_slP rfl) (PEq.refl _)) (.cons rfl (RowEq.cl (v_cl cPc _ _ _)) (.cons rfl (RowEq.cl (v_cl cPc _ _ _)) .nil)))) tmq) (by omega) ⟨_, 1, k0, 0, l0, l1, by assumption, by assumption, rfl, .inr (.inl ⟨rfl, by omega, rfl⟩), by omega, by omega, hl, hl1, hs, hs1, rfl⟩
  · repeat' (first | refine yo ?_ ?_ | refine yw ?_ ?_ | refine yk ?_ ?_ | exact trivial | with_reducible refine wA ?_ ?_ | refine ys ?_ ?_ | refine xs_done ?_ | refine yl ?_ ?_ | (refine t1 next4_t hn ?_; rintro at_ _ b1 b2 ⟨x, rfl, hx⟩) | (refine t2 next4_t hn ?_; rintro at_ _ b1 b2 ⟨x, rfl, hx⟩) | (refine t3 next4_t hn ?_; rintro at_ _ b1 b2 ⟨x, rfl, hx⟩) | refine w8 ?_ | refine w9 ?_ | refine w1 ?_ | refine w2 ?_ | refine w3 ?_ | refine w4 ?_ | refine w5 ?_ | refine w6 ?_ | refine w7 ?_ | refine yo0 ?_ ?_ | refine yw0 ?_ ?_ | exact qq | fail)
    rw [show IntKind.i64.wrap (1 + (x : Int)) = ((x + 1 : Nat) : Int) from by rw [w64 (by omega) (by omega)]; omega]
    refine pcan (st' := ⟨[(0, .ptr 0 0 0), (3, .lsl 1 0 2), (4, vi ((1 : Nat) : Int)), (5, vi ((x + 1 : Nat) : Int))], [tapeRow n g at_, rPs k0 0, vRow cPr 2 k0 (lF (0, 0) l0), vRow cPr 2 0 (lF (0, 0) l1)]⟩) (can_rowsv [0, 1, 2, 3] (k0_sel hk rfl) rfl (.cons rfl (RowEq.cl (tape_cl _ _ _)) (.cons rfl (ps_eq rfl rfl rfl (Nat.le_refl _) rfl rfl (peq_slP rfl) (PEq.refl _)) (.cons rfl (RowEq.cl (v_cl cPc _ _ _)) (.cons rfl (RowEq.cl (v_cl cPc _ _ _)) .nil)))) tmq) ?_
    refine ploop (fun q st => ∃ (at' : Int) (m k1 : Nat) (l1 : List (Int × Int)), 0 ≤ at' ∧ at' ≤ n ∧ q = m ∧ k1 + m = x + 1 ∧ l1.length = k1 ∧ Sml l1 ∧ st = ⟨[(0, .ptr 0 0 0), (3, .lsl 1 0 2), (4, vi ((1 : Nat) : Int)), (5, vi m)], [tapeRow n g at', rPs k0 k1, vRow cPr 2 k0 (lF (0, 0) l0), vRow cPr 2 k1 (lF (0, 0) l1)]⟩) (x + 1) ⟨at_, x + 1, 0, l1, b1, b2, rfl, by omega, hl1, hs1, rfl⟩ ?_
    clear hl1 hs1 b1 b2 l1
    rintro q _ ⟨at', m, k1, l1, b1, b2, hq, hkm, hl, hs, rfl⟩
    have hq := hq.symm
    subst hq
    repeat' (first | refine yo ?_ ?_ | refine yw ?_ ?_ | refine yk ?_ ?_ | exact trivial | with_reducible refine wA ?_ ?_ | refine ys ?_ ?_ | refine xs_done ?_ | refine yl ?_ ?_ | refine w8 ?_ | refine w9 ?_ | refine w1 ?_ | refine w2 ?_ | refine w3 ?_ | refine w4 ?_ | refine w5 ?_ | refine w6 ?_ | refine w7 ?_ | refine yo0 ?_ ?_ | refine yw0 ?_ ?_ | exact qq | fail)
    refine pcond rfl ?_ ?_ <;> intro hc <;> simp at hc
    · obtain ⟨m, rfl⟩ : ∃ m', m = m' + 1 := ⟨m - 1, by omega⟩
      have hw : IntKind.i64.wrap (((m + 1 : Nat) : Int) - 1) = (m : Int) := by rw [w64 (by omega) (by omega)]; omega
      rcases k1 with _ | k1
      all_goals
        repeat' (first | refine yo ?_ ?_ | refine yw ?_ ?_ | refine yk ?_ ?_ | exact trivial | with_reducible refine wA ?_ ?_ | refine ys ?_ ?_ | refine xs_done ?_ | refine yl ?_ ?_ | refine xs_start (id := 13) true [.take 0, .take 1, .take 6, .one 2, .take 3, .take 4, .take 5, .one 7, .take 8, .one 9] 0 rfl rfl (by kernel_rfl) ?_ | refine xs_startH (id := 8) [2] false [.take 0, .take 1, .take 2, .take 3, .take 7] 9 rfl (by kernel_rfl) ?_ | refine BrAll.cons ?_ ?_ | exact BrAll.nil | refine xs_brT (n := 14) [0, 1, 2, 3, 7] [(4, [], false, 8), (8, [], false, 8)] (by decide +kernel) rfl (by kernel_rfl) (by kernel_rfl) ?_ | refine xs_brT (n := 14) [0, 1, 2, 3, 7, 8] [(4, [], false, 7), (9, [.one 4, .one 5, .one 6, .one 10, .one 11, .one 12, .one 13], true, 0)] (by decide +kernel) rfl (by kernel_rfl) (by kernel_rfl) ?_ | refine xs_brT (n := 14) [0, 1, 2, 3, 4, 7, 8] [(5, [], false, 6), (9, [.one 5, .one 6, .one 10, .one 11, .one 12, .one 13], true, 0)] (by decide +kernel) rfl (by kernel_rfl) (by kernel_rfl) ?_ | refine xs_brT (n := 14) [0, 1, 2, 3, 4, 5, 7, 8] [(6, [.one 9, .one 10, .one 11, .one 12, .one 13], true, 0), (9, [.one 6, .one 10, .one 11, .one 12, .one 13], true, 0)] (by decide +kernel) rfl (by kernel_rfl) (by kernel_rfl) ?_ | refine xs_brT (n := 14) [0, 1, 2, 3, 4, 7] [(5, [], false, 7), (8, [], false, 7)] (by decide +kernel) rfl (by kernel_rfl) (by kernel_rfl) ?_ | refine xs_brT (n := 14) [0, 1, 2, 3, 4, 5, 7] [(6, [.one 8, .one 9, .one 10, .one 11, .one 12, .one 13], true, 0), (8, [], false, 6)] (by decide +kernel) rfl (by kernel_rfl) (by kernel_rfl) ?_ | refine ⟨_, [], true, rfl, rfl, stepOp_pst rfl ?_ ?_⟩ | exact ⟨Nat.le_refl _, (by rw [hk]; exact Nat.le_of_ble_eq_true rfl), Nat.le_of_eq (Nat.zero_add _), (show (_ : Nat) * 16 ≤ 140737488355328 from by omega), (show (_ : Nat) ≤ 9223372036854775807 from by omega)⟩ | (refine t1 small_t hn ?_; rintro at_ _ b1 b2 ⟨a, b, rfl, ha1, ha2, hb⟩) | (refine t2 small_t hn ?_; rintro at_ _ b1 b2 ⟨a, b, rfl, ha1, ha2, hb⟩) | (refine t3 small_t hn ?_; rintro at_ _ b1 b2 ⟨a, b, rfl, ha1, ha2, hb⟩) | refine w8 ?_ | refine w9 ?_ | refine w1 ?_ | refine w2 ?_ | refine w3 ?_ | refine w4 ?_ | refine w5 ?_ | refine w6 ?_ | refine w7 ?_ | refine yo0 ?_ ?_ | refine yw0 ?_ ?_ | exact qq | fail)
        all_goals
          refine xdone ?_
          rw [hw]
          first
            | exact kloop_next (st' := ⟨[(0, .ptr 0 0 0), (3, .lsl 1 0 2), (4, vi ((1 : Nat) : Int)), (5, vi (m : Int))], [tapeRow n g _, rPs k0 (0 + 1), vRow cPr 2 k0 (lF (0, 0) l0), vRow cPr 2 (0 + 1) (lF (0, 0) (l1 ++ [(a, b)]))]⟩) m (can_rowsv [0, 1, 2, 5] (k0_sel hk rfl) rfl (.cons rfl (RowEq.cl (tape_cl _ _ _)) (.cons rfl (ps_eq rfl rfl rfl (Nat.le_refl _) rfl rfl (peq_slP rfl) (PEq.refl _)) (.cons rfl (RowEq.cl (v_cl cPc _ _ _)) (.cons rfl (app_l0 cPc hl rfl) .nil)))) tmq) (by omega) ⟨_, m, 0 + 1, l1 ++ [(a, b)], by assumption, by assumption, rfl, by omega, by rw [List.length_append, hl]; rfl, hs.snoc ha1 ha2, rfl⟩
            | exact kloop_next (st' := ⟨[(0, .ptr 0 0 0), (3, .lsl 1 0 2), (4, vi ((1 : Nat) : Int)), (5, vi (m : Int))], [tapeRow n g _, rPs k0 (k1 + 1 + 1), vRow cPr 2 k0 (lF (0, 0) l0), vRow cPr 2 (k1 + 1 + 1) (lF (0, 0) (l1 ++ [(a, b)]))]⟩) m (can_rowsv [0, 1, 2, 5] (k0_sel hk rfl) rfl (.cons rfl (RowEq.cl (tape_cl _ _ _)) (.cons rfl (ps_eq rfl rfl rfl (Nat.le_refl _) rfl rfl (peq_slP rfl) (PEq.refl _)) (.cons rfl (RowEq.cl (v_cl cPc _ _ _)) (.cons rfl (app_l cPc hl rfl rfl) .nil)))) tmq) (by omega) ⟨_, m, k1 + 1 + 1, l1 ++ [(a, b)], by assumption, by assumption, rfl, by omega, by rw [List.length_append, hl]; rfl, hs.snoc ha1 ha2, rfl⟩
    · obtain rfl : m = 0 := by omega
      repeat' (first | refine yo ?_ ?_ | refine yw ?_ ?_ | refine yk ?_ ?_ | exact trivial | with_reducible refine wA ?_ ?_ | refine ys ?_ ?_ | refine xs_done ?_ | refine yl ?_ ?_ | refine w8 ?_ | refine w9 ?_ | refine w1 ?_ | refine w2 ?_ | refine w3 ?_ | refine w4 ?_ | refine w5 ?_ | refine w6 ?_ | refine w7 ?_ | refine yo0 ?_ ?_ | refine yw0 ?_ ?_ | exact qq | fail)
      refine xdone ?_
      exact kloop_next (st' := ⟨[(0, .ptr 0 0 0), (3, .lsl 1 0 2), (4, vi ((2 : Nat) : Int))], [tapeRow n g _, rPs k0 k1, vRow cPr 2 k0 (lF (0, 0) l0), vRow cPr 2 k1 (lF (0, 0) l1)]⟩) 0 (can_rowsv [0, 1, 2, 3] (k0_sel hk rfl) rfl (.cons rfl (RowEq.cl (tape_cl _ _ _)) (.cons rfl (ps_eq rfl rfl rfl (Nat.le_refl _) rfl rfl (peq_slP rfl) (peq_slP rfl)) (.cons rfl (RowEq.cl (v_cl cPc _ _ _)) (.cons rfl (RowEq.cl (v_cl cPc _ _ _)) .nil)))) tmq) (by omega) ⟨_, 2, k0, k1, l0, l1, by assumption, by assumption, rfl, .inr (.inr ⟨rfl, by omega, by omega⟩), by omega, by omega, hl0, hl, hs0, hs, rfl⟩
  · repeat' (first | refine yo ?_ ?_ | refine yw ?_ ?_ | refine yk ?_ ?_ | exact trivial | with_reducible refine wA ?_ ?_ | refine ys ?_ ?_ | refine xs_done ?_ | refine yl ?_ ?_ | (refine tn1 hn ?_; rintro at_ b1 b2 x hx1 hx2) | refine w8 ?_ | refine w9 ?_ | refine w1 ?_ | refine w2 ?_ | refine w3 ?_ | refine w4 ?_ | refine w5 ?_ | refine w6 ?_ | refine w7 ?_ | refine yo0 ?_ ?_ | refine yw0 ?_ ?_ | exact qq | fail)
    refine pcond rfl ?_ ?_ <;> intro hc <;> simp at hc
    · repeat' (first | refine yo ?_ ?_ | refine yw ?_ ?_ | refine yk ?_ ?_ | exact trivial | with_reducible refine wA ?_ ?_ | refine ys ?_ ?_ | refine xs_done ?_ | refine yl ?_ ?_ | (refine t1 next2_t hn ?_; rintro at_ _ b1 b2 ⟨y, rfl, (rfl | rfl)⟩) | (refine t2 next2_t hn ?_; rintro at_ _ b1 b2 ⟨y, rfl, (rfl | rfl)⟩) | (refine t3 next2_t hn ?_; rintro at_ _ b1 b2 ⟨y, rfl, (rfl | rfl)⟩) | refine w8 ?_ | refine w9 ?_ | refine w1 ?_ | refine w2 ?_ | refine w3 ?_ | refine w4 ?_ | refine w5 ?_ | refine w6 ?_ | refine w7 ?_ | refine yo0 ?_ ?_ | refine yw0 ?_ ?_ | exact qq | fail)
      · refine xdone ?_
        exact ktapL [1, 2, 3] rfl (by assumption) (by assumption) (by intro l hl; simp at hl; omega) rfl ⟨trivial, trivial⟩ (qs := [vPas [⟨n_gross, 0, fun _ => (0, 0)⟩, ⟨n_time, k1, lF (0, 0) l1⟩]]) ⟨argPas rfl (Nat.le_refl _) (by simp) rfl rfl argNil (arg_v cPc rfl (by simp)), trivial⟩ ⟨_, _, _, _, rfl, bdp_0 _ _, bdp_s _ hk1 hs1⟩
      · refine xdone ?_
        exact ktapL [1, 2, 3] rfl (by assumption) (by assumption) (by intro l hl; simp at hl; omega) rfl ⟨trivial, trivial⟩ (qs := [vPas [⟨n_gross, k0, lF (0, 0) l0⟩, ⟨n_time, 0, fun _ => (0, 0)⟩]]) ⟨argPas rfl (Nat.le_refl _) (by simp) rfl rfl (arg_v cPc rfl (by simp)) argNil, trivial⟩ ⟨_, _, _, _, rfl, bdp_s _ hk0 hs0, bdp_0 _ _⟩
    · repeat' (first | refine yo ?_ ?_ | refine yw ?_ ?_ | refine yk ?_ ?_ | exact trivial | with_reducible refine wA ?_ ?_ | refine ys ?_ ?_ | refine xs_done ?_ | refine yl ?_ ?_ | refine w8 ?_ | refine w9 ?_ | refine w1 ?_ | refine w2 ?_ | refine w3 ?_ | refine w4 ?_ | refine w5 ?_ | refine w6 ?_ | refine w7 ?_ | refine yo0 ?_ ?_ | refine yw0 ?_ ?_ | exact qq | fail)
      refine pcond rfl ?_ ?_ <;> intro hc2 <;> simp at hc2
      · rcases k0 with _ | k0
        · omega
        rcases k1 with _ | k1
        · omega
        repeat' (first | refine yo ?_ ?_ | refine yw ?_ ?_ | refine yk ?_ ?_ | exact trivial | with_reducible refine wA ?_ ?_ | refine ys ?_ ?_ | refine xs_done ?_ | refine yl ?_ ?_ | refine xs_start (id := 8) false [.take 0, .take 1, .take 2, .take 3, .take 4, .take 5, .take 7, .take 8] 6 rfl rfl (by kernel_rfl) ?_ | refine xs_start (id := 13) true [.take 0, .take 1, .take 6, .one 2, .take 3, .take 4, .take 5, .one 7, .take 8, .one 9] 0 rfl rfl (by kernel_rfl) ?_ | (refine t1 next2_t hn ?_; rintro at_ _ b1 b2 ⟨y, rfl, (rfl | rfl)⟩) | (refine t2 next2_t hn ?_; rintro at_ _ b1 b2 ⟨y, rfl, (rfl | rfl)⟩) | (refine t3 next2_t hn ?_; rintro at_ _ b1 b2 ⟨y, rfl, (rfl | rfl)⟩) | (refine t1 fraction_t hn ?_; rintro at_ _ b1 b2 ⟨u, v, rfl, hu, hv⟩) | (refine t2 fraction_t hn ?_; rintro at_ _ b1 b2 ⟨u, v, rfl, hu, hv⟩) | (refine t3 fraction_t hn ?_; rintro at_ _ b1 b2 ⟨u, v, rfl, hu, hv⟩) | refine w8 ?_ | refine w9 ?_ | refine w1 ?_ | refine w2 ?_ | refine w3 ?_ | refine w4 ?_ | refine w5 ?_ | refine w6 ?_ | refine w7 ?_ | refine yo0 ?_ ?_ | refine yw0 ?_ ?_ | exact qq | fail)
        · refine xdone ?_
          exact ktapL [1, 2, 3] rfl (by assumption) (by assumption) (by intro l hl; simp at hl; omega) rfl ⟨trivial, trivial⟩ (qs := [vPas [⟨n_gross, k0 + 1, set0 (u, v) (lF (0, 0) l0)⟩, ⟨n_time, k1 + 1, lF (0, 0) l1⟩]]) ⟨argPas rfl (Nat.le_refl _) (by simp) rfl rfl (argSl (k := k0 + 1) rfl (Nat.le_refl _) (by simp) fun a ha b hb => by rcases a with _ | a <;> rcases c2 hb with rfl | rfl <;> rfl) (arg_o (s := .own) (l := 3) cPc rfl trivial (List.Mem.tail _ (List.Mem.tail _ (List.Mem.head _)))), trivial⟩ ⟨_, _, _, _, rfl, bdp_1 _ hk0 hs0 hu hv, bdp_s _ hk1 hs1⟩
        · refine xdone ?_
          exact ktapL [1, 2, 3] rfl (by assumption) (by assumption) (by intro l hl; simp at hl; omega) rfl ⟨trivial, trivial⟩ (qs := [vPas [⟨n_gross, k0 + 1, lF (0, 0) l0⟩, ⟨n_time, k1 + 1, set0 (u, v) (lF (0, 0) l1)⟩]]) ⟨argPas rfl (Nat.le_refl _) (by simp) rfl rfl (arg_o (s := .own) (l := 2) cPc rfl trivial (List.Mem.tail _ (List.Mem.head _))) (argSl (k := k1 + 1) rfl (Nat.le_refl _) (by simp) fun a ha b hb => by rcases a with _ | a <;> rcases c2 hb with rfl | rfl <;> rfl), trivial⟩ ⟨_, _, _, _, rfl, bdp_s _ hk0 hs0, bdp_1 _ hk1 hs1 hu hv⟩
      · repeat' (first | refine yo ?_ ?_ | refine yw ?_ ?_ | refine yk ?_ ?_ | exact trivial | with_reducible refine wA ?_ ?_ | refine ys ?_ ?_ | refine xs_done ?_ | refine yl ?_ ?_ | refine w8 ?_ | refine w9 ?_ | refine w1 ?_ | refine w2 ?_ | refine w3 ?_ | refine w4 ?_ | refine w5 ?_ | refine w6 ?_ | refine w7 ?_ | refine yo0 ?_ ?_ | refine yw0 ?_ ?_ | exact qq | fail)
        refine xdone ?_
        exact ktapL [1, 2, 3] rfl (by assumption) (by assumption) (by intro l hl; simp at hl; omega) rfl ⟨trivial, trivial⟩ (qs := [vPas [⟨n_gross, k0, lF (0, 0) l0⟩, ⟨n_time, k1, lF (0, 0) l1⟩]]) ⟨argPas rfl (Nat.le_refl _) (by simp) rfl rfl (arg_v cPc rfl (by simp)) (arg_v cPc rfl (by simp)), trivial⟩ ⟨_, _, _, _, rfl, bdp_s _ hk0 hs0, bdp_s _ hk1 hs1⟩
end Go.Proofs.YtdifpajpheemaaaGreatDoor
namespace Go.Proofs.YtdifpajpheemaaaGreatDoor
theorem lF_take1 {l : List Df} {i : Nat} (hi : i < l.length) : l.take (i + 1) = l.take i ++ [lF dD l i] := by
  rw [List.take_add_one, List.getElem?_eq_getElem hi]
  unfold lF; rw [List.getD_eq_getElem?_getD, List.getElem?_eq_getElem hi]; rfl
def fk (p : Df → Bool) (l : List Df) (i : Nat) : List Df := (l.take i).filter p
theorem fk_y {p : Df → Bool} {l : List Df} {i : Nat} (hi : i < l.length) (h : p (lF dD l i) = true) : fk p l (i + 1) = fk p l i ++ [lF dD l i] := by
  unfold fk; rw [lF_take1 hi, List.filter_append]; simp [h]
theorem fk_n {p : Df → Bool} {l : List Df} {i : Nat} (hi : i < l.length) (h : p (lF dD l i) = false) : fk p l (i + 1) = fk p l i := by
  unfold fk; rw [lF_take1 hi, List.filter_append]; simp [h]
theorem fk_le (p : Df → Bool) (l : List Df) (i : Nat) : (fk p l i).length ≤ i := by
  unfold fk; have := List.length_filter_le p (l.take i); have := List.length_take_le i l; omega
theorem fk_all (p : Df → Bool) (l : List Df) : fk p l l.length = l.filter p := by unfold fk; rw [List.take_length]
abbrev rAg18 (nm : ByteArray) (l : List Df) : Row := ⟨.own, true, 1, 2, fun _ => nthP [vs nm, vDs l]⟩
set_option maxHeartbeats 4000000 in
theorem names20_c (nm : ByteArray) (l : List Df) (hl : l.length ≤ 1000) : PureC G.P 12 [vA nm l] (fun r => r = .tup 3 (nthP [vDs (l.filter isNm), vDs (l.filter isSc), vDs (l.filter isPa)])) := by
  refine pure_of (G := G.toPg) (fn := Tryz.f12) Tryz.func12 rfl rfl rfl ?_; intro Γ hk
  repeat' (first | refine yo ?_ ?_ | refine yw ?_ ?_ | refine yk ?_ ?_ | exact trivial | with_reducible refine wA ?_ ?_ | refine ys ?_ ?_ | refine xs_done ?_ | refine yl ?_ ?_ | refine w8 ?_ | refine w9 ?_ | refine w1 ?_ | refine w2 ?_ | refine w3 ?_ | refine w4 ?_ | refine w5 ?_ | refine w6 ?_ | refine w7 ?_ | refine yo0 ?_ ?_ | refine yw0 ?_ ?_ | exact qq | fail)
  refine pcan (can_virt (vRow cD 21 0 (lF dD [])) rfl) ?_
  refine pcan (can_virt (vRow cD 21 0 (lF dD [])) rfl) ?_
  refine pcan (can_virt (vRow cD 21 0 (lF dD [])) rfl) ?_
  refine pcan (st' := ⟨[(1, .ptr 0 0 0), (2, slP 0 1), (3, slP 0 2), (4, slP 0 3), (5, vi ((0 : Nat) : Int))], [rAg18 nm l, vRow cD 21 0 (lF dD (fk isNm l 0)), vRow cD 21 0 (lF dD (fk isSc l 0)), vRow cD 21 0 (lF dD (fk isPa l 0))]⟩) (can_rowsv [0, 1, 2, 3] (k0_sel hk rfl) rfl (.cons rfl rqq (.cons rfl (RowEq.cl (v_cl cD_cl _ _ _)) (.cons rfl (RowEq.cl (v_cl cD_cl _ _ _)) (.cons rfl (RowEq.cl (v_cl cD_cl _ _ _)) .nil)))) tmq) ?_
  refine ploop (fun q st => ∃ i a b c : Nat, i ≤ l.length ∧ (fk isNm l i).length = a ∧ (fk isSc l i).length = b ∧ (fk isPa l i).length = c ∧ q = l.length - i ∧ st = ⟨[(1, .ptr 0 0 0), (2, slP a 1), (3, slP b 2), (4, slP c 3), (5, vi i)], [rAg18 nm l, vRow cD 21 a (lF dD (fk isNm l i)), vRow cD 21 b (lF dD (fk isSc l i)), vRow cD 21 c (lF dD (fk isPa l i))]⟩) l.length ⟨0, 0, 0, 0, by omega, rfl, rfl, rfl, by omega, rfl⟩ ?_
  rintro _ _ ⟨i, a, b, c, hi, ha, hb, hc, rfl, rfl⟩
  have la := fk_le isNm l i
  have lb := fk_le isSc l i
  have lc := fk_le isPa l i
  repeat' (first | refine yo ?_ ?_ | refine yw ?_ ?_ | refine yk ?_ ?_ | exact trivial | with_reducible refine wA ?_ ?_ | refine ys ?_ ?_ | refine xs_done ?_ | refine yl ?_ ?_ | refine w8 ?_ | refine w9 ?_ | refine w1 ?_ | refine w2 ?_ | refine w3 ?_ | refine w4 ?_ | refine w5 ?_ | refine w6 ?_ | refine w7 ?_ | refine yo0 ?_ ?_ | refine yw0 ?_ ?_ | exact qq | fail)
  refine pcond rfl ?_ ?_ <;> intro hlt <;> simp at hlt
  · have hw : IntKind.i64.wrap ((i : Int) + 1) = ((i + 1 : Nat) : Int) := w64 (by omega) (by omega)
    by_cases hk1 : (lF dD l i).kind = 1 ∨ (lF dD l i).kind = 3 ∨ (lF dD l i).kind = 4
    · have e1 := fk_y (p := isNm) hlt (decide_eq_true hk1)
      have e2 := fk_n (p := isSc) hlt (decide_eq_false (by omega))
      have e3 := fk_n (p := isPa) hlt (decide_eq_false (by omega))
      rcases hk1 with h | h | h
      all_goals
        rcases a with _ | a
        · repeat' (first | refine yo ?_ ?_ | refine yw ?_ ?_ | refine yk ?_ ?_ | exact trivial | with_reducible refine wA ?_ ?_ | refine ys ?_ ?_ | refine xs_done ?_ | refine yl ?_ ?_ | exact ⟨Nat.le_refl _, (by rw [hk]; exact Nat.le_of_ble_eq_true rfl), Nat.le_of_eq (Nat.zero_add _), (show (_ : Nat) * 216 ≤ 140737488355328 from by omega), (show (_ : Nat) ≤ 9223372036854775807 from by omega)⟩ | (refine pcond_y rfl (by show ((lF dD l i).kind == _) = true; rw [h]; rfl) ?_) | (refine pcond_n rfl (by show ((lF dD l i).kind == _) = false; rw [h]; rfl) ?_) | refine w8 ?_ | refine w9 ?_ | refine w1 ?_ | refine w2 ?_ | refine w3 ?_ | refine w4 ?_ | refine w5 ?_ | refine w6 ?_ | refine w7 ?_ | refine yo0 ?_ ?_ | refine yw0 ?_ ?_ | exact qq | fail)
          rw [hw]
          exact kloop_next (st' := ⟨[(1, .ptr 0 0 0), (2, slP (0 + 1) 1), (3, slP b 2), (4, slP c 3), (5, vi ((i + 1 : Nat) : Int))], [rAg18 nm l, vRow cD 21 (0 + 1) (lF dD (fk isNm l i ++ [lF dD l i])), vRow cD 21 b (lF dD (fk isSc l i)), vRow cD 21 c (lF dD (fk isPa l i))]⟩) (l.length - (i + 1)) (can_rowsv [0, 6, 2, 3] (k0_sel hk rfl) rfl (.cons rfl rqq (.cons rfl (app_l0 cD_cl ha rfl) (.cons rfl (RowEq.cl (v_cl cD_cl _ _ _)) (.cons rfl (RowEq.cl (v_cl cD_cl _ _ _)) .nil)))) tmq) (by omega) ⟨i + 1, (0 + 1), b, c, by omega, by rw [e1, List.length_append, ha]; rfl, by rw [e2]; exact hb, by rw [e3]; exact hc, rfl, by rw [e1, e2, e3]⟩
        · repeat' (first | refine yo ?_ ?_ | refine yw ?_ ?_ | refine yk ?_ ?_ | exact trivial | with_reducible refine wA ?_ ?_ | refine ys ?_ ?_ | refine xs_done ?_ | refine yl ?_ ?_ | exact ⟨Nat.le_refl _, (by rw [hk]; exact Nat.le_of_ble_eq_true rfl), Nat.le_of_eq (Nat.zero_add _), (show (_ : Nat) * 216 ≤ 140737488355328 from by omega), (show (_ : Nat) ≤ 9223372036854775807 from by omega)⟩ | (refine pcond_y rfl (by show ((lF dD l i).kind == _) = true; rw [h]; rfl) ?_) | (refine pcond_n rfl (by show ((lF dD l i).kind == _) = false; rw [h]; rfl) ?_) | refine w8 ?_ | refine w9 ?_ | refine w1 ?_ | refine w2 ?_ | refine w3 ?_ | refine w4 ?_ | refine w5 ?_ | refine w6 ?_ | refine w7 ?_ | refine yo0 ?_ ?_ | refine yw0 ?_ ?_ | exact qq | fail)
          rw [hw]
          exact kloop_next (st' := ⟨[(1, .ptr 0 0 0), (2, slP (a + 1 + 1) 1), (3, slP b 2), (4, slP c 3), (5, vi ((i + 1 : Nat) : Int))], [rAg18 nm l, vRow cD 21 (a + 1 + 1) (lF dD (fk isNm l i ++ [lF dD l i])), vRow cD 21 b (lF dD (fk isSc l i)), vRow cD 21 c (lF dD (fk isPa l i))]⟩) (l.length - (i + 1)) (can_rowsv [0, 6, 2, 3] (k0_sel hk rfl) rfl (.cons rfl rqq (.cons rfl (app_l cD_cl ha rfl rfl) (.cons rfl (RowEq.cl (v_cl cD_cl _ _ _)) (.cons rfl (RowEq.cl (v_cl cD_cl _ _ _)) .nil)))) tmq) (by omega) ⟨i + 1, (a + 1 + 1), b, c, by omega, by rw [e1, List.length_append, ha]; rfl, by rw [e2]; exact hb, by rw [e3]; exact hc, rfl, by rw [e1, e2, e3]⟩
    · by_cases h : (lF dD l i).kind = 2
      · have e1 := fk_n (p := isNm) hlt (decide_eq_false hk1)
        have e2 := fk_y (p := isSc) hlt (decide_eq_true h)
        have e3 := fk_n (p := isPa) hlt (decide_eq_false (by omega))
        rcases b with _ | b
        · repeat' (first | refine yo ?_ ?_ | refine yw ?_ ?_ | refine yk ?_ ?_ | exact trivial | with_reducible refine wA ?_ ?_ | refine ys ?_ ?_ | refine xs_done ?_ | refine yl ?_ ?_ | exact ⟨Nat.le_refl _, (by rw [hk]; exact Nat.le_of_ble_eq_true rfl), Nat.le_of_eq (Nat.zero_add _), (show (_ : Nat) * 216 ≤ 140737488355328 from by omega), (show (_ : Nat) ≤ 9223372036854775807 from by omega)⟩ | (refine pcond_y rfl (by show ((lF dD l i).kind == _) = true; rw [h]; rfl) ?_) | (refine pcond_n rfl (by show ((lF dD l i).kind == _) = false; rw [h]; rfl) ?_) | refine w8 ?_ | refine w9 ?_ | refine w1 ?_ | refine w2 ?_ | refine w3 ?_ | refine w4 ?_ | refine w5 ?_ | refine w6 ?_ | refine w7 ?_ | refine yo0 ?_ ?_ | refine yw0 ?_ ?_ | exact qq | fail)
          rw [hw]
          exact kloop_next (st' := ⟨[(1, .ptr 0 0 0), (2, slP a 1), (3, slP (0 + 1) 2), (4, slP c 3), (5, vi ((i + 1 : Nat) : Int))], [rAg18 nm l, vRow cD 21 a (lF dD (fk isNm l i)), vRow cD 21 (0 + 1) (lF dD (fk isSc l i ++ [lF dD l i])), vRow cD 21 c (lF dD (fk isPa l i))]⟩) (l.length - (i + 1)) (can_rowsv [0, 1, 6, 3] (k0_sel hk rfl) rfl (.cons rfl rqq (.cons rfl (RowEq.cl (v_cl cD_cl _ _ _)) (.cons rfl (app_l0 cD_cl hb rfl) (.cons rfl (RowEq.cl (v_cl cD_cl _ _ _)) .nil)))) tmq) (by omega) ⟨i + 1, a, (0 + 1), c, by omega, by rw [e1]; exact ha, by rw [e2, List.length_append, hb]; rfl, by rw [e3]; exact hc, rfl, by rw [e1, e2, e3]⟩
        · repeat' (first | refine yo ?_ ?_ | refine yw ?_ ?_ | refine yk ?_ ?_ | exact trivial | with_reducible refine wA ?_ ?_ | refine ys ?_ ?_ | refine xs_done ?_ | refine yl ?_ ?_ | exact ⟨Nat.le_refl _, (by rw [hk]; exact Nat.le_of_ble_eq_true rfl), Nat.le_of_eq (Nat.zero_add _), (show (_ : Nat) * 216 ≤ 140737488355328 from by omega), (show (_ : Nat) ≤ 9223372036854775807 from by omega)⟩ | (refine pcond_y rfl (by show ((lF dD l i).kind == _) = true; rw [h]; rfl) ?_) | (refine pcond_n rfl (by show ((lF dD l i).kind == _) = false; rw [h]; rfl) ?_) | refine w8 ?_ | refine w9 ?_ | refine w1 ?_ | refine w2 ?_ | refine w3 ?_ | refine w4 ?_ | refine w5 ?_ | refine w6 ?_ | refine w7 ?_ | refine yo0 ?_ ?_ | refine yw0 ?_ ?_ | exact qq | fail)
          rw [hw]
          exact kloop_next (st' := ⟨[(1, .ptr 0 0 0), (2, slP a 1), (3, slP (b + 1 + 1) 2), (4, slP c 3), (5, vi ((i + 1 : Nat) : Int))], [rAg18 nm l, vRow cD 21 a (lF dD (fk isNm l i)), vRow cD 21 (b + 1 + 1) (lF dD (fk isSc l i ++ [lF dD l i])), vRow cD 21 c (lF dD (fk isPa l i))]⟩) (l.length - (i + 1)) (can_rowsv [0, 1, 6, 3] (k0_sel hk rfl) rfl (.cons rfl rqq (.cons rfl (RowEq.cl (v_cl cD_cl _ _ _)) (.cons rfl (app_l cD_cl hb rfl rfl) (.cons rfl (RowEq.cl (v_cl cD_cl _ _ _)) .nil)))) tmq) (by omega) ⟨i + 1, a, (b + 1 + 1), c, by omega, by rw [e1]; exact ha, by rw [e2, List.length_append, hb]; rfl, by rw [e3]; exact hc, rfl, by rw [e1, e2, e3]⟩
      · by_cases h : (lF dD l i).kind = 5
        · have e1 := fk_n (p := isNm) hlt (decide_eq_false hk1)
          have e2 := fk_n (p := isSc) hlt (decide_eq_false (by omega))
          have e3 := fk_y (p := isPa) hlt (decide_eq_true h)
          rcases c with _ | c
          · repeat' (first | refine yo ?_ ?_ | refine yw ?_ ?_ | refine yk ?_ ?_ | exact trivial | with_reducible refine wA ?_ ?_ | refine ys ?_ ?_ | refine xs_done ?_ | refine yl ?_ ?_ | exact ⟨Nat.le_refl _, (by rw [hk]; exact Nat.le_of_ble_eq_true rfl), Nat.le_of_eq (Nat.zero_add _), (show (_ : Nat) * 216 ≤ 140737488355328 from by omega), (show (_ : Nat) ≤ 9223372036854775807 from by omega)⟩ | (refine pcond_y rfl (by show ((lF dD l i).kind == _) = true; rw [h]; rfl) ?_) | (refine pcond_n rfl (by show ((lF dD l i).kind == _) = false; rw [h]; rfl) ?_) | refine w8 ?_ | refine w9 ?_ | refine w1 ?_ | refine w2 ?_ | refine w3 ?_ | refine w4 ?_ | refine w5 ?_ | refine w6 ?_ | refine w7 ?_ | refine yo0 ?_ ?_ | refine yw0 ?_ ?_ | exact qq | fail)
            rw [hw]
            exact kloop_next (st' := ⟨[(1, .ptr 0 0 0), (2, slP a 1), (3, slP b 2), (4, slP (0 + 1) 3), (5, vi ((i + 1 : Nat) : Int))], [rAg18 nm l, vRow cD 21 a (lF dD (fk isNm l i)), vRow cD 21 b (lF dD (fk isSc l i)), vRow cD 21 (0 + 1) (lF dD (fk isPa l i ++ [lF dD l i]))]⟩) (l.length - (i + 1)) (can_rowsv [0, 1, 2, 6] (k0_sel hk rfl) rfl (.cons rfl rqq (.cons rfl (RowEq.cl (v_cl cD_cl _ _ _)) (.cons rfl (RowEq.cl (v_cl cD_cl _ _ _)) (.cons rfl (app_l0 cD_cl hc rfl) .nil)))) tmq) (by omega) ⟨i + 1, a, b, (0 + 1), by omega, by rw [e1]; exact ha, by rw [e2]; exact hb, by rw [e3, List.length_append, hc]; rfl, rfl, by rw [e1, e2, e3]⟩
          · repeat' (first | refine yo ?_ ?_ | refine yw ?_ ?_ | refine yk ?_ ?_ | exact trivial | with_reducible refine wA ?_ ?_ | refine ys ?_ ?_ | refine xs_done ?_ | refine yl ?_ ?_ | exact ⟨Nat.le_refl _, (by rw [hk]; exact Nat.le_of_ble_eq_true rfl), Nat.le_of_eq (Nat.zero_add _), (show (_ : Nat) * 216 ≤ 140737488355328 from by omega), (show (_ : Nat) ≤ 9223372036854775807 from by omega)⟩ | (refine pcond_y rfl (by show ((lF dD l i).kind == _) = true; rw [h]; rfl) ?_) | (refine pcond_n rfl (by show ((lF dD l i).kind == _) = false; rw [h]; rfl) ?_) | refine w8 ?_ | refine w9 ?_ | refine w1 ?_ | refine w2 ?_ | refine w3 ?_ | refine w4 ?_ | refine w5 ?_ | refine w6 ?_ | refine w7 ?_ | refine yo0 ?_ ?_ | refine yw0 ?_ ?_ | exact qq | fail)
            rw [hw]
            exact kloop_next (st' := ⟨[(1, .ptr 0 0 0), (2, slP a 1), (3, slP b 2), (4, slP (c + 1 + 1) 3), (5, vi ((i + 1 : Nat) : Int))], [rAg18 nm l, vRow cD 21 a (lF dD (fk isNm l i)), vRow cD 21 b (lF dD (fk isSc l i)), vRow cD 21 (c + 1 + 1) (lF dD (fk isPa l i ++ [lF dD l i]))]⟩) (l.length - (i + 1)) (can_rowsv [0, 1, 2, 6] (k0_sel hk rfl) rfl (.cons rfl rqq (.cons rfl (RowEq.cl (v_cl cD_cl _ _ _)) (.cons rfl (RowEq.cl (v_cl cD_cl _ _ _)) (.cons rfl (app_l cD_cl hc rfl rfl) .nil)))) tmq) (by omega) ⟨i + 1, a, b, (c + 1 + 1), by omega, by rw [e1]; exact ha, by rw [e2]; exact hb, by rw [e3, List.length_append, hc]; rfl, rfl, by rw [e1, e2, e3]⟩
        · have e1 := fk_n (p := isNm) hlt (decide_eq_false hk1)
          have e2 := fk_n (p := isSc) hlt (decide_eq_false (by omega))
          have e3 := fk_n (p := isPa) hlt (decide_eq_false (by omega))
          have g1 : ¬ (lF dD l i).kind = 1 := by omega
          have g3 : ¬ (lF dD l i).kind = 3 := by omega
          have g4 : ¬ (lF dD l i).kind = 4 := by omega
          have g2 : ¬ (lF dD l i).kind = 2 := by omega
          repeat' (first | refine yo ?_ ?_ | refine yw ?_ ?_ | refine yk ?_ ?_ | exact trivial | with_reducible refine wA ?_ ?_ | refine ys ?_ ?_ | refine xs_done ?_ | refine yl ?_ ?_ | (refine pcond_n rfl (by show ((lF dD l i).kind == _) = false; rw [bqd]; exact decide_eq_false (by assumption)) ?_) | refine w8 ?_ | refine w9 ?_ | refine w1 ?_ | refine w2 ?_ | refine w3 ?_ | refine w4 ?_ | refine w5 ?_ | refine w6 ?_ | refine w7 ?_ | refine yo0 ?_ ?_ | refine yw0 ?_ ?_ | exact qq | fail)
          rw [hw]
          exact kloop_next (st' := ⟨[(1, .ptr 0 0 0), (2, slP a 1), (3, slP b 2), (4, slP c 3), (5, vi ((i + 1 : Nat) : Int))], [rAg18 nm l, vRow cD 21 a (lF dD (fk isNm l i)), vRow cD 21 b (lF dD (fk isSc l i)), vRow cD 21 c (lF dD (fk isPa l i))]⟩) (l.length - (i + 1)) (can_rowsv [0, 1, 2, 3] (k0_sel hk rfl) rfl (.cons rfl rqq (.cons rfl (RowEq.cl (v_cl cD_cl _ _ _)) (.cons rfl (RowEq.cl (v_cl cD_cl _ _ _)) (.cons rfl (RowEq.cl (v_cl cD_cl _ _ _)) .nil)))) tmq) (by omega) ⟨i + 1, a, b, c, by omega, by rw [e1]; exact ha, by rw [e2]; exact hb, by rw [e3]; exact hc, rfl, by rw [e1, e2, e3]⟩
  · obtain rfl : i = l.length := by omega
    rw [fk_all] at ha hb hc
    rw [fk_all, fk_all, fk_all]
    refine pcan (can_frz [1, 2, 3] (by intro _ _; rw [hk]; exact Nat.zero_le _) rfl (tm := [(2, .vsl a 21 (tF cD (lF dD (l.filter isNm)))), (3, .vsl b 21 (tF cD (lF dD (l.filter isSc)))), (4, .vsl c 21 (tF cD (lF dD (l.filter isPa))))]) (by exact ⟨.inr (arg_v cD_cl rfl (by simp)), .inr (arg_v cD_cl rfl (by simp)), .inr (arg_v cD_cl rfl (by simp)), trivial⟩)) ?_
    repeat' (first | refine yo ?_ ?_ | refine yw ?_ ?_ | refine yk ?_ ?_ | exact trivial | with_reducible refine wA ?_ ?_ | refine ys ?_ ?_ | refine xs_done ?_ | refine yl ?_ ?_ | refine w8 ?_ | refine w9 ?_ | refine w1 ?_ | refine w2 ?_ | refine w3 ?_ | refine w4 ?_ | refine w5 ?_ | refine w6 ?_ | refine w7 ?_ | refine yo0 ?_ ?_ | refine yw0 ?_ ?_ | exact qq | fail)
    refine xdone ?_
    exact kretv rfl ⟨trivial, trivial, trivial, trivial⟩ rfl (by rw [← ha, ← hb, ← hc]; rfl)
end Go.Proofs.YtdifpajpheemaaaGreatDoor
namespace Go.Proofs.YtdifpajpheemaaaGreatDoor
set_option maxHeartbeats 20000000 in
theorem agr_pay (h : Nat) (h1 : 1 ≤ h) (h32 : h ≤ 32) (hX : ∀ t, t ∈ tysA → ∀ rules : Int, TapC G.P 6 [vT t, vi h, vi rules] (fun r => ∃ e, r = vX e ∧ EOk (max h 1) t e)) (n : Nat) (g : Nat → Int) (hn : n ≤ 9223372036854775807) (Γ : Fr) (hk : Γ.k0 = 1) (at_ : Int) (k : Nat) (l : List Df) (b1 : 0 ≤ at_) (b2 : at_ ≤ n) (hlk : l.length = k + 1) (hA : AB h 16 l) :
    PWp G.toPg Tryz.f13.ntmps Γ (dropS 7 (Tryz.f13.body.getD .skip)) ⟨[(0, .ptr 0 0 0), (1, vi h), (6, .ptr 1 0 0), (7, .ptr 2 0 0)], [tapeRow n g at_, rZA, rA (k + 1) 3, vRow cD 21 (k + 1) (lF dD l)]⟩ (KretR Tryz.f13.ntmps Γ G.tab Tryz.f13.results.toList 1 (agrPost h n g)) := by
  have hM := hX tM (by simp [tysA])
  repeat' (first | refine yo ?_ ?_ | refine yw ?_ ?_ | refine yk ?_ ?_ | exact trivial | with_reducible refine wA ?_ ?_ | refine ys ?_ ?_ | refine xs_done ?_ | refine yl ?_ ?_ | refine w8 ?_ | refine w9 ?_ | refine w1 ?_ | refine w2 ?_ | refine w3 ?_ | refine w4 ?_ | refine w5 ?_ | refine w6 ?_ | refine w7 ?_ | refine yo0 ?_ ?_ | refine yw0 ?_ ?_ | exact qq | fail)
  refine pcan (st' := ⟨[(0, .ptr 0 0 0), (1, vi h), (6, .ptr 1 0 0), (7, .ptr 2 0 0), (13, vi 0)], [tapeRow n g at_, rZA, rA (k + 1) 3, vRow cD 21 (k + 1) (lF dD l)]⟩) (can_rowsv [0, 1, 2, 3] (k0_sel hk rfl) rfl (.cons rfl (RowEq.cl (tape_cl _ _ _)) (.cons rfl rqq (.cons rfl rqq (.cons rfl (RowEq.cl (v_cl cD_cl _ _ _)) .nil)))) tmq) ?_
  refine pcutx (fun st => ∃ (at' : Int) (k : Nat) (l : List Df), 0 ≤ at' ∧ at' ≤ n ∧ l.length = k + 1 ∧ AGood h l ∧ st = ⟨[(0, .ptr 0 0 0), (6, .ptr 1 0 0), (7, .ptr 2 0 0)], [tapeRow n g at', rZA, rA (k + 1) 3, vRow cD 21 (k + 1) (lF dD l)]⟩) ?_ (by rintro _ ⟨at', k, l, b1, b2, hlk, hA, rfl⟩; exact agr_swap h n g hn Γ hk at' k l b1 b2 hlk hA)
  refine ploop (fun q st => ∃ (at' : Int) (v k : Nat) (l : List Df), 0 ≤ at' ∧ at' ≤ n ∧ v ≤ 2 ∧ q = 2 - v ∧ l.length = k + 1 ∧ AB h (16 + v) l ∧ st = ⟨[(0, .ptr 0 0 0), (1, vi h), (6, .ptr 1 0 0), (7, .ptr 2 0 0), (13, vi v)], [tapeRow n g at', rZA, rA (k + 1) 3, vRow cD 21 (k + 1) (lF dD l)]⟩) 2 ⟨at_, 0, k, l, b1, b2, by omega, rfl, hlk, hA, rfl⟩ ?_
  clear hlk hA b1 b2
  rintro _ _ ⟨at', v, k, l, b1, b2, hv, rfl, hlk, hA, rfl⟩
  have hkl := hA.len
  repeat' (first | refine yo ?_ ?_ | refine yw ?_ ?_ | refine yk ?_ ?_ | exact trivial | with_reducible refine wA ?_ ?_ | refine ys ?_ ?_ | refine xs_done ?_ | refine yl ?_ ?_ | (refine tn1 hn ?_; rintro at_ b1 b2 x hx1 hx2) | refine w8 ?_ | refine w9 ?_ | refine w1 ?_ | refine w2 ?_ | refine w3 ?_ | refine w4 ?_ | refine w5 ?_ | refine w6 ?_ | refine w7 ?_ | refine yo0 ?_ ?_ | refine yw0 ?_ ?_ | exact qq | fail)
  refine pcond rfl ?_ ?_ <;> intro hc4 <;> simp at hc4
  · have hv1 : v ≤ 1 := by omega
    have hwv : IntKind.i64.wrap ((v : Int) + 1) = ((v + 1 : Nat) : Int) := w64 (by omega) (by omega)
    obtain ⟨ht1, ht2, ht3⟩ := pay_tab3 hv1
    clear hx1 hx2 hc4
    repeat' (first | refine yo ?_ ?_ | refine yw ?_ ?_ | refine yk ?_ ?_ | exact trivial | with_reducible refine wA ?_ ?_ | refine ys ?_ ?_ | refine xs_done ?_ | refine yl ?_ ?_ | refine xs_startH (id := 20) [1,2] false [.take 0, .take 1, .take 3, .take 6, .take 8, .take 9, .take 10, .take 12, .take 14, .take 15, .take 16, .take 18, .take 7] 14 rfl (by kernel_rfl) ?_ | refine BrAll.cons ?_ ?_ | exact BrAll.nil | refine xs_brT (n := 27) [0, 1, 3, 6, 7, 8, 9, 10, 12, 14, 15, 16, 18] [(2, [.take 4], false, 12), (11, [], false, 13), (17, [], false, 13)] (by decide +kernel) rfl (by kernel_rfl) (by kernel_rfl) ?_ | refine xs_brT (n := 27) [0, 1, 3, 6, 7, 8, 9, 10, 12, 14, 15, 16, 17, 18] [(2, [.take 4], false, 11), (11, [], false, 12)] (by decide +kernel) rfl (by kernel_rfl) (by kernel_rfl) ?_ | refine xs_brT (n := 27) [0, 1, 3, 6, 7, 8, 9, 10, 11, 12, 14, 15, 16, 17, 18] [(2, [.take 4], false, 10), (13, [], false, 11)] (by decide +kernel) rfl (by kernel_rfl) (by kernel_rfl) ?_ | refine xs_brT (n := 27) [0, 1, 3, 6, 7, 8, 9, 10, 11, 12, 13, 14, 15, 16, 17, 18] [(2, [.take 4], false, 9), (19, [.take 20], false, 9)] (by decide +kernel) rfl (by kernel_rfl) (by kernel_rfl) ?_ | refine xs_brT (n := 27) [0, 1, 3, 6, 7, 8, 9, 10, 11, 12, 14, 15, 16, 18] [(2, [.take 4], false, 11), (13, [], false, 12), (17, [], false, 12)] (by decide +kernel) rfl (by kernel_rfl) (by kernel_rfl) ?_ | refine xs_brT (n := 27) [0, 1, 3, 6, 7, 8, 9, 10, 11, 12, 13, 14, 15, 16, 18] [(2, [.take 4], false, 10), (17, [], false, 11), (19, [], false, 11)] (by decide +kernel) rfl (by kernel_rfl) (by kernel_rfl) ?_ | refine xs_brT (n := 27) [0, 1, 3, 6, 7, 8, 9, 10, 11, 12, 13, 14, 15, 16, 18, 19] [(2, [.take 4], false, 9), (17, [.take 20], false, 9)] (by decide +kernel) rfl (by kernel_rfl) (by kernel_rfl) ?_ | refine xs_brT (n := 27) [0, 1, 2, 3, 4, 5, 6, 7, 8, 9, 10, 11, 12, 13, 14, 15, 16, 18] [(17, [.one 19, .take 20], false, 6), (19, [.one 17, .take 20], false, 6)] (by decide +kernel) rfl (by kernel_rfl) (by kernel_rfl) ?_ | refine xs_brT (n := 27) [0, 1, 2, 3, 4, 5, 6, 7, 8, 9, 10, 11, 12, 14, 15, 16, 18] [(13, [], false, 9), (17, [.one 13, .one 19, .take 20], false, 6)] (by decide +kernel) rfl (by kernel_rfl) (by kernel_rfl) ?_ | refine xs_brT (n := 27) [0, 1, 2, 3, 4, 5, 6, 7, 8, 9, 10, 12, 14, 15, 16, 18] [(11, [], false, 10), (17, [.one 11, .one 13, .one 19, .take 20], false, 6)] (by decide +kernel) rfl (by kernel_rfl) (by kernel_rfl) ?_ | refine xs_moreF (sch := [.take 5]) (fin := false) (m' := 11) (n := 27) [0, 1, 2, 3, 4, 6, 7, 8, 9, 10, 12, 14, 15, 16, 18] (by decide +kernel) (by kernel_rfl) ?_ | refine xs_moreF (sch := []) (fin := false) (m' := 11) (n := 27) [0, 1, 2, 3, 4, 5, 6, 7, 8, 9, 10, 12, 14, 15, 16, 18] (by decide +kernel) (by kernel_rfl) ?_ | refine xs_moreF (sch := [.take 5]) (fin := false) (m' := 10) (n := 27) [0, 1, 2, 3, 4, 6, 7, 8, 9, 10, 12, 14, 15, 16, 17, 18] (by decide +kernel) (by kernel_rfl) ?_ | refine xs_moreF (sch := [.one 11, .one 13, .one 19, .take 20]) (fin := false) (m' := 6) (n := 27) [0, 1, 2, 3, 4, 5, 6, 7, 8, 9, 10, 12, 14, 15, 16, 17, 18] (by decide +kernel) (by kernel_rfl) ?_ | refine xs_moreF (sch := [.take 21]) (fin := false) (m' := 5) (n := 27) [0, 1, 2, 3, 4, 5, 6, 7, 8, 9, 10, 11, 12, 13, 14, 15, 16, 17, 18, 19, 20] (by decide +kernel) (by kernel_rfl) ?_ | refine xs_moreF (sch := [.take 22, .one 23, .one 24, .take 25, .one 26]) (fin := true) (m' := 0) (n := 27) [0, 1, 2, 3, 4, 5, 6, 7, 8, 9, 10, 11, 12, 13, 14, 15, 16, 17, 18, 19, 20, 21] (by decide +kernel) (by kernel_rfl) ?_ | refine xs_moreF (sch := [.take 5]) (fin := false) (m' := 9) (n := 27) [0, 1, 2, 3, 4, 6, 7, 8, 9, 10, 11, 12, 14, 15, 16, 17, 18] (by decide +kernel) (by kernel_rfl) ?_ | refine xs_moreF (sch := [.one 13, .one 19, .take 20]) (fin := false) (m' := 6) (n := 27) [0, 1, 2, 3, 4, 5, 6, 7, 8, 9, 10, 11, 12, 14, 15, 16, 17, 18] (by decide +kernel) (by kernel_rfl) ?_ | refine xs_moreF (sch := [.take 5]) (fin := false) (m' := 8) (n := 27) [0, 1, 2, 3, 4, 6, 7, 8, 9, 10, 11, 12, 13, 14, 15, 16, 17, 18] (by decide +kernel) (by kernel_rfl) ?_ | refine xs_moreF (sch := [.one 19, .take 20]) (fin := false) (m' := 6) (n := 27) [0, 1, 2, 3, 4, 5, 6, 7, 8, 9, 10, 11, 12, 13, 14, 15, 16, 17, 18] (by decide +kernel) (by kernel_rfl) ?_ | refine xs_moreF (sch := [.take 21]) (fin := false) (m' := 8) (n := 27) [0, 1, 3, 6, 7, 8, 9, 10, 11, 12, 13, 14, 15, 16, 17, 18, 19, 20] (by decide +kernel) (by kernel_rfl) ?_ | refine xs_moreF (sch := [.one 2, .take 4]) (fin := false) (m' := 6) (n := 27) [0, 1, 3, 6, 7, 8, 9, 10, 11, 12, 13, 14, 15, 16, 17, 18, 19, 20, 21] (by decide +kernel) (by kernel_rfl) ?_ | refine xs_moreF (sch := [.take 5]) (fin := false) (m' := 5) (n := 27) [0, 1, 2, 3, 4, 6, 7, 8, 9, 10, 11, 12, 13, 14, 15, 16, 17, 18, 19, 20, 21] (by decide +kernel) (by kernel_rfl) ?_ | refine xs_moreF (sch := [.take 5]) (fin := false) (m' := 10) (n := 27) [0, 1, 2, 3, 4, 6, 7, 8, 9, 10, 11, 12, 14, 15, 16, 18] (by decide +kernel) (by kernel_rfl) ?_ | refine xs_moreF (sch := []) (fin := false) (m' := 10) (n := 27) [0, 1, 2, 3, 4, 5, 6, 7, 8, 9, 10, 11, 12, 14, 15, 16, 18] (by decide +kernel) (by kernel_rfl) ?_ | refine xs_moreF (sch := [.take 5]) (fin := false) (m' := 9) (n := 27) [0, 1, 2, 3, 4, 6, 7, 8, 9, 10, 11, 12, 13, 14, 15, 16, 18] (by decide +kernel) (by kernel_rfl) ?_ | refine xs_moreF (sch := []) (fin := false) (m' := 9) (n := 27) [0, 1, 2, 3, 4, 5, 6, 7, 8, 9, 10, 11, 12, 13, 14, 15, 16, 18] (by decide +kernel) (by kernel_rfl) ?_ | refine xs_moreF (sch := [.take 5]) (fin := false) (m' := 8) (n := 27) [0, 1, 2, 3, 4, 6, 7, 8, 9, 10, 11, 12, 13, 14, 15, 16, 18, 19] (by decide +kernel) (by kernel_rfl) ?_ | refine xs_moreF (sch := [.one 17, .take 20]) (fin := false) (m' := 6) (n := 27) [0, 1, 2, 3, 4, 5, 6, 7, 8, 9, 10, 11, 12, 13, 14, 15, 16, 18, 19] (by decide +kernel) (by kernel_rfl) ?_ | refine ⟨_, [], true, rfl, rfl, stepOp_pst rfl ?_ ?_⟩ | (refine xs_takeR rfl rfl rfl rfl (pread_cell (q := vs (lF ⟨#[]⟩ nmsP v)) rfl rfl rfl rfl rfl (nmP_row hv1)) rfl (show (0 + ((v : Nat) : Int).toNat) < 2 from by omega) ?_) | (refine xs_takeR rfl rfl rfl rfl (pread_aggs2 (q := [vi (lF dS stepL x.toNat).1, vi (lF dS stepL x.toNat).2]) rfl rfl rfl rfl rfl rfl (st3_row hx1 hx2)) rfl (show 0 + x.toNat < 3 from by omega) ?_) | exact ⟨Nat.le_refl _, (by rw [hk]; exact Nat.le_of_ble_eq_true rfl), Nat.le_of_eq (Nat.zero_add _), (show (_ : Nat) * 216 ≤ 140737488355328 from by omega), (show (_ : Nat) ≤ 9223372036854775807 from by omega)⟩ | (refine t1 ((hM _)) hn ?_; rintro at_ _ b1 b2 ⟨e, rfl, he⟩) | (refine t2 ((hM _)) hn ?_; rintro at_ _ b1 b2 ⟨e, rfl, he⟩) | (refine t3 ((hM _)) hn ?_; rintro at_ _ b1 b2 ⟨e, rfl, he⟩) | (refine tn3 hn ?_; rintro at_ b1 b2 x hx1 hx2) | (refine tn2 hn ?_; rintro at_ b1 b2 x hx1 hx2) | refine z1 money_c ?_ | refine z2 money_c ?_ | refine z3 money_c ?_ | refine z4 money_c ?_ | refine z5 money_c ?_ | refine w8 ?_ | refine w9 ?_ | refine w1 ?_ | refine w2 ?_ | refine w3 ?_ | refine w4 ?_ | refine w5 ?_ | refine w6 ?_ | refine w7 ?_ | refine yo0 ?_ ?_ | refine yw0 ?_ ?_ | exact qq | refine xs_growN 4 rfl rfl trivial ?_ | refine xs_growN 5 rfl rfl trivial ?_ | fail)
    all_goals
      rename_i at1 c1 c2 xm hm1 hm2
      refine xdone ?_
      rw [hwv]
      exact kloop_next (st' := ⟨[(0, .ptr 0 0 0), (1, vi h), (6, .ptr 1 0 0), (7, .ptr 2 0 0), (13, vi ((v + 1 : Nat) : Int))], [tapeRow n g _, rZA, rA (k + 1 + 1) 3, vRow cD 21 (k + 1 + 1) (lF dD (l ++ [dP (lF ⟨#[]⟩ nmsP v) e xm (lF dS stepL x.toNat)]))]⟩) (2 - (v + 1)) (can_rowsv [0, 1, 2, 7] (k0_sel hk rfl) rfl (.cons rfl (RowEq.cl (tape_cl _ _ _)) (.cons rfl rqq (.cons rfl rqq (.cons rfl (app_p cD_cl (by assumption) (fun b hb => by rcases split21 hb with rfl | rfl | rfl | rfl | rfl | rfl | rfl | rfl | rfl | rfl | rfl | rfl | rfl | rfl | rfl | rfl | rfl | rfl | rfl | rfl | rfl <;> first | exact PEq.refl _ | exact peq_nil) rfl) .nil)))) tmq) (by omega) ⟨_, v + 1, k + 1, _, by assumption, by assumption, by omega, rfl, by rw [List.length_append, hlk]; rfl, hA.snoc (by omega) (d := dP (lF ⟨#[]⟩ nmsP v) e xm (lF dS stepL x.toNat)) ht3.symm (gd_pay (he.mono (by omega)) h32 ht1 ht2 (by omega) (st3_mem hx1 hx2)), rfl⟩
  · repeat' (first | refine yo ?_ ?_ | refine yw ?_ ?_ | refine yk ?_ ?_ | exact trivial | with_reducible refine wA ?_ ?_ | refine ys ?_ ?_ | refine xs_done ?_ | refine yl ?_ ?_ | refine w8 ?_ | refine w9 ?_ | refine w1 ?_ | refine w2 ?_ | refine w3 ?_ | refine w4 ?_ | refine w5 ?_ | refine w6 ?_ | refine w7 ?_ | refine yo0 ?_ ?_ | refine yw0 ?_ ?_ | exact qq | fail)
    refine kblock_hit rfl ?_
    exact kcut (st' := ⟨[(0, .ptr 0 0 0), (6, .ptr 1 0 0), (7, .ptr 2 0 0)], [tapeRow n g _, rZA, rA (k + 1) 3, vRow cD 21 (k + 1) (lF dD l)]⟩) (can_rowsv [0, 1, 2, 3] (k0_sel hk rfl) rfl (.cons rfl (RowEq.cl (tape_cl _ _ _)) (.cons rfl rqq (.cons rfl rqq (.cons rfl (RowEq.cl (v_cl cD_cl _ _ _)) .nil)))) tmq) ⟨_, k, l, by assumption, by assumption, hlk, (by
      rcases (by omega : v = 1 ∨ v = 2) with rfl | rfl
      · exact (hA.skip (by omega) (.inr rfl)).good
      · exact hA.good), rfl⟩
end Go.Proofs.YtdifpajpheemaaaGreatDoor
namespace Go.Proofs.YtdifpajpheemaaaGreatDoor
set_option maxHeartbeats 8000000 in
theorem agreement_r (h : Nat) (h1 : 1 ≤ h) (h32 : h ≤ 32) (hX : ∀ t, t ∈ tysA → ∀ rules : Int, TapC G.P 6 [vT t, vi h, vi rules] (fun r => ∃ e, r = vX e ∧ EOk (max h 1) t e)) (wild : Bool) (n : Nat) (g : Nat → Int) (at_ : Int) (hn : n ≤ 9223372036854775807) (h1' : 0 ≤ at_) (h2' : at_ ≤ n) : RowsC G.P 13 [tapeRow n g at_] [.ptr 0 0 0, vi h, vb wild] (agrPost h n g) := by
  refine rows_of (G := G.toPg) (fn := Tryz.f13) Tryz.func13 rfl rfl rfl ?_; intro Γ hk
  replace hk : Γ.k0 = 1 := hk
  repeat' (first | refine yo ?_ ?_ | refine yw ?_ ?_ | refine yk ?_ ?_ | exact trivial | with_reducible refine wA ?_ ?_ | refine ys ?_ ?_ | refine xs_done ?_ | refine yl ?_ ?_ | refine z1 number_c ?_ | refine z2 number_c ?_ | refine z3 number_c ?_ | refine z4 number_c ?_ | refine z5 number_c ?_ | refine z1 money_c ?_ | refine z2 money_c ?_ | refine z3 money_c ?_ | refine z4 money_c ?_ | refine z5 money_c ?_ | refine z1 hours_c ?_ | refine z2 hours_c ?_ | refine z3 hours_c ?_ | refine z4 hours_c ?_ | refine z5 hours_c ?_ | refine z1 rate_c ?_ | refine z2 rate_c ?_ | refine z3 rate_c ?_ | refine z4 rate_c ?_ | refine z5 rate_c ?_ | refine z1 truth_c ?_ | refine z2 truth_c ?_ | refine z3 truth_c ?_ | refine z4 truth_c ?_ | refine z5 truth_c ?_ | refine w8 ?_ | refine w9 ?_ | refine w1 ?_ | refine w2 ?_ | refine w3 ?_ | refine w4 ?_ | refine w5 ?_ | refine w6 ?_ | refine w7 ?_ | refine yo0 ?_ ?_ | refine yw0 ?_ ?_ | exact qq | fail)
  refine pcan (st' := ⟨[(0, .ptr 0 0 0), (1, vi h), (2, vb wild), (6, .ptr 1 0 0), (7, .ptr 2 0 0)], [tapeRow n g at_, rZA, rA 5 3, vRow cD 21 5 (lF dD ins5)]⟩) (can_rowsv [0, 1, 2, 3] (k0_sel hk rfl) rfl (.cons rfl (RowEq.cl (tape_cl _ _ _)) (.cons rfl rqq (.cons rfl rqq (.cons rfl (o_eqP (Nat.le_refl _) fun a ha b hb => by
    rcases (by omega : a = 0 ∨ a = 1 ∨ a = 2 ∨ a = 3 ∨ a = 4) with rfl | rfl | rfl | rfl | rfl <;> rcases split21 hb with rfl | rfl | rfl | rfl | rfl | rfl | rfl | rfl | rfl | rfl | rfl | rfl | rfl | rfl | rfl | rfl | rfl | rfl | rfl | rfl | rfl <;> first | exact PEq.refl _ | exact peq_nil) .nil)))) tmq) ?_
  repeat' (first | refine yo ?_ ?_ | refine yw ?_ ?_ | refine yk ?_ ?_ | exact trivial | with_reducible refine wA ?_ ?_ | refine ys ?_ ?_ | refine xs_done ?_ | refine yl ?_ ?_ | refine xs_startH (id := 3) [1,2] true [.take 0, .take 1, .take 2, .take 5, .one 3, .one 4, .one 6, .one 7, .one 8, .one 9, .take 10, .one 11] 0 rfl (by kernel_rfl) ?_ | (exact ⟨Nat.le_refl _, (by rw [hk]; exact Nat.le_of_ble_eq_true rfl), Nat.le_of_ble_eq_true rfl, Nat.le_of_ble_eq_true rfl, Nat.le_of_ble_eq_true rfl⟩) | (refine t1 ((scale_t n_w tR 20454)) hn ?_; rintro at_ _ b1 b2 ⟨d1, rfl, hd1⟩) | (refine t2 ((scale_t n_w tR 20454)) hn ?_; rintro at_ _ b1 b2 ⟨d1, rfl, hd1⟩) | (refine t3 ((scale_t n_w tR 20454)) hn ?_; rintro at_ _ b1 b2 ⟨d1, rfl, hd1⟩) | (refine t1 ((scale_t n_s t0 20454)) hn ?_; rintro at_ _ b1 b2 ⟨d2, rfl, hd2⟩) | (refine t2 ((scale_t n_s t0 20454)) hn ?_; rintro at_ _ b1 b2 ⟨d2, rfl, hd2⟩) | (refine t3 ((scale_t n_s t0 20454)) hn ?_; rintro at_ _ b1 b2 ⟨d2, rfl, hd2⟩) | (refine tn1 hn ?_; rintro at_ b1 b2 x hx1 hx2) | refine z1 number_c ?_ | refine z2 number_c ?_ | refine z3 number_c ?_ | refine z4 number_c ?_ | refine z5 number_c ?_ | refine z1 money_c ?_ | refine z2 money_c ?_ | refine z3 money_c ?_ | refine z4 money_c ?_ | refine z5 money_c ?_ | refine z1 hours_c ?_ | refine z2 hours_c ?_ | refine z3 hours_c ?_ | refine z4 hours_c ?_ | refine z5 hours_c ?_ | refine z1 rate_c ?_ | refine z2 rate_c ?_ | refine z3 rate_c ?_ | refine z4 rate_c ?_ | refine z5 rate_c ?_ | refine z1 truth_c ?_ | refine z2 truth_c ?_ | refine z3 truth_c ?_ | refine z4 truth_c ?_ | refine z5 truth_c ?_ | refine w8 ?_ | refine w9 ?_ | refine w1 ?_ | refine w2 ?_ | refine w3 ?_ | refine w4 ?_ | refine w5 ?_ | refine w6 ?_ | refine w7 ?_ | refine yo0 ?_ ?_ | refine yw0 ?_ ?_ | exact qq | fail)
  have hB := (((ab5 h).snoc (by omega) (d := d1) (by rw [hd1.eq]; rfl) (gd_sc hd1 mm (by decide) (by decide) rfl (by decide))).snoc (by omega) (d := d2) (by rw [hd2.eq]; rfl) (gd_sc hd2 mm (by decide) (by decide) rfl (by decide)))
  refine pcan (st' := ⟨[(0, .ptr 0 0 0), (1, vi h), (2, vb wild), (6, .ptr 1 0 0), (7, .ptr 2 0 0), (42, vb (decide (x = 0)))], [tapeRow n g at_, rZA, rA 7 3, vRow cD 21 7 (lF dD (ins5 ++ [d1, d2]))]⟩) (can_rowsv [0, 1, 2, 5] (k0_sel hk rfl) rfl (.cons rfl (RowEq.cl (tape_cl _ _ _)) (.cons rfl rqq (.cons rfl rqq (.cons rfl (app_2 cD_cl (l := ins5) rfl (fun _ => rfl) rfl rfl) .nil)))) tmq) ?_
  refine pcut (fun st => ∃ (at' : Int) (k : Nat) (l : List Df), 0 ≤ at' ∧ at' ≤ n ∧ l.length = k + 1 ∧ AB h 8 l ∧ st = ⟨[(0, .ptr 0 0 0), (1, vi h), (2, vb wild), (6, .ptr 1 0 0), (7, .ptr 2 0 0)], [tapeRow n g at', rZA, rA (k + 1) 3, vRow cD 21 (k + 1) (lF dD l)]⟩) (pcond rfl ?_ ?_) ?_
  · intro hc
    repeat' (first | refine yo ?_ ?_ | refine yw ?_ ?_ | refine yk ?_ ?_ | exact trivial | with_reducible refine wA ?_ ?_ | refine ys ?_ ?_ | refine xs_done ?_ | refine yl ?_ ?_ | refine xs_startH (id := 5) [1,2] true [.take 0, .take 1, .take 2, .one 3, .one 4, .one 5, .one 6, .take 7, .one 8] 0 rfl (by kernel_rfl) ?_ | (exact ⟨Nat.le_refl _, (by rw [hk]; exact Nat.le_of_ble_eq_true rfl), Nat.le_of_ble_eq_true rfl, Nat.le_of_ble_eq_true rfl, Nat.le_of_ble_eq_true rfl⟩) | (refine t1 ((scale_t n_w tR 20459)) hn ?_; rintro at_ _ b1 b2 ⟨d3, rfl, hd3⟩) | (refine t2 ((scale_t n_w tR 20459)) hn ?_; rintro at_ _ b1 b2 ⟨d3, rfl, hd3⟩) | (refine t3 ((scale_t n_w tR 20459)) hn ?_; rintro at_ _ b1 b2 ⟨d3, rfl, hd3⟩) | refine z1 number_c ?_ | refine z2 number_c ?_ | refine z3 number_c ?_ | refine z4 number_c ?_ | refine z5 number_c ?_ | refine z1 money_c ?_ | refine z2 money_c ?_ | refine z3 money_c ?_ | refine z4 money_c ?_ | refine z5 money_c ?_ | refine z1 hours_c ?_ | refine z2 hours_c ?_ | refine z3 hours_c ?_ | refine z4 hours_c ?_ | refine z5 hours_c ?_ | refine z1 rate_c ?_ | refine z2 rate_c ?_ | refine z3 rate_c ?_ | refine z4 rate_c ?_ | refine z5 rate_c ?_ | refine z1 truth_c ?_ | refine z2 truth_c ?_ | refine z3 truth_c ?_ | refine z4 truth_c ?_ | refine z5 truth_c ?_ | refine w8 ?_ | refine w9 ?_ | refine w1 ?_ | refine w2 ?_ | refine w3 ?_ | refine w4 ?_ | refine w5 ?_ | refine w6 ?_ | refine w7 ?_ | refine yo0 ?_ ?_ | refine yw0 ?_ ?_ | exact qq | fail)
    exact kcut (st' := ⟨[(0, .ptr 0 0 0), (1, vi h), (2, vb wild), (6, .ptr 1 0 0), (7, .ptr 2 0 0)], [tapeRow n g _, rZA, rA (7 + 1) 3, vRow cD 21 (7 + 1) (lF dD ((ins5 ++ [d1, d2]) ++ [d3]))]⟩) (can_rowsv [0, 1, 2, 5] (k0_sel hk rfl) rfl (.cons rfl (RowEq.cl (tape_cl _ _ _)) (.cons rfl rqq (.cons rfl rqq (.cons rfl (app_l cD_cl (l := ins5 ++ [d1, d2]) rfl rfl rfl) .nil)))) tmq) ⟨_, 7, _, b1, b2, rfl, hB.snoc (by omega) (d := d3) (by rw [hd3.eq]; rfl) (gd_sc hd3 mm (by decide) (by decide) rfl (by decide)), rfl⟩
  · intro hc
    repeat' (first | refine yo ?_ ?_ | refine yw ?_ ?_ | refine yk ?_ ?_ | exact trivial | with_reducible refine wA ?_ ?_ | refine ys ?_ ?_ | refine xs_done ?_ | refine yl ?_ ?_ | refine w8 ?_ | refine w9 ?_ | refine w1 ?_ | refine w2 ?_ | refine w3 ?_ | refine w4 ?_ | refine w5 ?_ | refine w6 ?_ | refine w7 ?_ | refine yo0 ?_ ?_ | refine yw0 ?_ ?_ | exact qq | fail)
    exact kcut (st' := ⟨[(0, .ptr 0 0 0), (1, vi h), (2, vb wild), (6, .ptr 1 0 0), (7, .ptr 2 0 0)], [tapeRow n g at_, rZA, rA (6 + 1) 3, vRow cD 21 (6 + 1) (lF dD (ins5 ++ [d1, d2]))]⟩) (can_rowsv [0, 1, 2, 3] (k0_sel hk rfl) rfl (.cons rfl (RowEq.cl (tape_cl _ _ _)) (.cons rfl rqq (.cons rfl rqq (.cons rfl (RowEq.cl (v_cl cD_cl _ _ _)) .nil)))) tmq) ⟨_, 6, _, b1, b2, rfl, hB.skip (by omega) (.inl ks_w), rfl⟩
  rintro _ ⟨at', k, l, b1, b2, hlk, hA, rfl⟩
  repeat' (first | refine yo ?_ ?_ | refine yw ?_ ?_ | refine yk ?_ ?_ | exact trivial | with_reducible refine wA ?_ ?_ | refine ys ?_ ?_ | refine xs_done ?_ | refine yl ?_ ?_ | refine z1 number_c ?_ | refine z2 number_c ?_ | refine z3 number_c ?_ | refine z4 number_c ?_ | refine z5 number_c ?_ | refine z1 money_c ?_ | refine z2 money_c ?_ | refine z3 money_c ?_ | refine z4 money_c ?_ | refine z5 money_c ?_ | refine z1 hours_c ?_ | refine z2 hours_c ?_ | refine z3 hours_c ?_ | refine z4 hours_c ?_ | refine z5 hours_c ?_ | refine z1 rate_c ?_ | refine z2 rate_c ?_ | refine z3 rate_c ?_ | refine z4 rate_c ?_ | refine z5 rate_c ?_ | refine z1 truth_c ?_ | refine z2 truth_c ?_ | refine z3 truth_c ?_ | refine z4 truth_c ?_ | refine z5 truth_c ?_ | refine w8 ?_ | refine w9 ?_ | refine w1 ?_ | refine w2 ?_ | refine w3 ?_ | refine w4 ?_ | refine w5 ?_ | refine w6 ?_ | refine w7 ?_ | refine yo0 ?_ ?_ | refine yw0 ?_ ?_ | exact qq | fail)
  refine pcan (st' := ⟨[(0, .ptr 0 0 0), (1, vi h), (2, vb wild), (6, .ptr 1 0 0), (7, .ptr 2 0 0), (8, .lsl 4 0 4), (9, .lsl 5 0 4), (10, vi 0)], [tapeRow n g at', rZA, rA (k + 1) 3, vRow cD 21 (k + 1) (lF dD l), oRow cSt 1 4 (lF ⟨#[]⟩ nmsR), oRow cT 4 4 (lF t0 tysR)]⟩) (can_rowsv [0, 1, 2, 3, 4, 5] (k0_sel hk rfl) rfl (.cons rfl (RowEq.cl (tape_cl _ _ _)) (.cons rfl rqq (.cons rfl rqq (.cons rfl (RowEq.cl (v_cl cD_cl _ _ _)) (.cons rfl (o_eq cSt_cl (Nat.le_refl _) fun a ha b hb => by
    have ha : a < 4 := ha
    have hb : b < 1 := hb
    obtain rfl : b = 0 := by omega
    rcases (by omega : a = 0 ∨ a = 1 ∨ a = 2 ∨ a = 3) with rfl | rfl | rfl | rfl <;> rfl) (.cons rfl (o_eq cT_cl (Nat.le_refl _) fun a ha b hb => by
    have ha : a < 4 := ha
    have hb : b < 4 := hb
    rcases (by omega : a = 0 ∨ a = 1 ∨ a = 2 ∨ a = 3) with rfl | rfl | rfl | rfl <;> rcases (by omega : b = 0 ∨ b = 1 ∨ b = 2 ∨ b = 3) with rfl | rfl | rfl | rfl <;> rfl) .nil)))))) tmq) ?_
  refine pcutx (fun st => ∃ (at' : Int) (k : Nat) (l : List Df), 0 ≤ at' ∧ at' ≤ n ∧ l.length = k + 1 ∧ AB h 16 l ∧ st = ⟨[(0, .ptr 0 0 0), (1, vi h), (6, .ptr 1 0 0), (7, .ptr 2 0 0)], [tapeRow n g at', rZA, rA (k + 1) 3, vRow cD 21 (k + 1) (lF dD l)]⟩) ?_ (by rintro _ ⟨at', k, l, b1, b2, hlk, hA, rfl⟩; exact agr_pay h h1 h32 hX n g hn Γ hk at' k l b1 b2 hlk hA)
  refine ploop (fun q st => ∃ (b : Bool) (at' : Int) (i k : Nat) (l : List Df), 0 ≤ at' ∧ at' ≤ n ∧ i ≤ 4 ∧ q = 4 - i ∧ l.length = k + 1 ∧ AB h (8 + 2 * i) l ∧ st = ⟨[(0, .ptr 0 0 0), (1, vi h), (2, vb b), (6, .ptr 1 0 0), (7, .ptr 2 0 0), (8, .lsl 4 0 4), (9, .lsl 5 0 4), (10, vi i)], [tapeRow n g at', rZA, rA (k + 1) 3, vRow cD 21 (k + 1) (lF dD l), oRow cSt 1 4 (lF ⟨#[]⟩ nmsR), oRow cT 4 4 (lF t0 tysR)]⟩) 4 ⟨wild, at', 0, k, l, b1, b2, by omega, rfl, hlk, hA, rfl⟩ ?_
  clear hlk hA b1 b2
  rintro _ _ ⟨b, at', i, k, l, b1, b2, hi, rfl, hlk, hA, rfl⟩
  repeat' (first | refine yo ?_ ?_ | refine yw ?_ ?_ | refine yk ?_ ?_ | exact trivial | with_reducible refine wA ?_ ?_ | refine ys ?_ ?_ | refine xs_done ?_ | refine yl ?_ ?_ | refine w8 ?_ | refine w9 ?_ | refine w1 ?_ | refine w2 ?_ | refine w3 ?_ | refine w4 ?_ | refine w5 ?_ | refine w6 ?_ | refine w7 ?_ | refine yo0 ?_ ?_ | refine yw0 ?_ ?_ | exact qq | fail)
  refine pcond rfl ?_ ?_ <;> intro hc <;> simp at hc
  · have hwi : IntKind.i64.wrap ((i : Int) + 1) = ((i + 1 : Nat) : Int) := w64 (by omega) (by omega)
    have i0 : 0 + (i : Int).toNat = i := by omega
    have iX : ∀ rules : Int, TapC G.P 6 [vT (lF t0 tysR (0 + (i : Int).toNat)), vi h, vi rules] (fun r => ∃ e, r = vX e ∧ EOk (max h 1) (lF t0 tysR i) e) := fun rules => by rw [i0]; exact hX _ (rule_ty (by omega)) rules
    rcases b with _ | _
    all_goals
      repeat' (first | refine yo ?_ ?_ | refine yw ?_ ?_ | refine yk ?_ ?_ | exact trivial | with_reducible refine wA ?_ ?_ | refine ys ?_ ?_ | refine xs_done ?_ | refine yl ?_ ?_ | (refine pop_gfalse rfl rfl rfl rfl ?_) | (refine pop_opt 65 rfl rfl ?_) | (refine pop_unguard rfl rfl ?_) | (refine tn1 hn ?_; rintro at_ b1 b2 x hx1 hx2) | refine w8 ?_ | refine w9 ?_ | refine w1 ?_ | refine w2 ?_ | refine w3 ?_ | refine w4 ?_ | refine w5 ?_ | refine w6 ?_ | refine w7 ?_ | refine yo0 ?_ ?_ | refine yw0 ?_ ?_ | (refine pcond rfl ?_ ?_ <;> intro hc) | exact qq | fail)
    all_goals
      refine pcan (st' := ⟨[(0, .ptr 0 0 0), (1, vi h), (2, vb _), (6, .ptr 1 0 0), (7, .ptr 2 0 0), (8, .lsl 4 0 4), (9, .lsl 5 0 4), (10, vi i), (11, vi _), (12, vi 0)], [tapeRow n g _, rZA, rA (k + 1) 3, vRow cD 21 (k + 1) (lF dD l), oRow cSt 1 4 (lF ⟨#[]⟩ nmsR), oRow cT 4 4 (lF t0 tysR)]⟩) (can_rowsv [0, 1, 2, 3, 4, 5] (k0_sel hk rfl) rfl (.cons rfl (RowEq.cl (tape_cl _ _ _)) (.cons rfl rqq (.cons rfl rqq (.cons rfl (RowEq.cl (v_cl cD_cl _ _ _)) (.cons rfl (RowEq.cl (o_cl cSt_cl _ _ _)) (.cons rfl (RowEq.cl (o_cl cT_cl _ _ _)) .nil)))))) tmq) ?_
      refine ploop (fun q st => ∃ (b : Bool) (at' rules : Int) (v k : Nat) (l : List Df), 0 ≤ at' ∧ at' ≤ n ∧ v ≤ 2 ∧ q = 2 - v ∧ l.length = k + 1 ∧ AB h (8 + 2 * i + v) l ∧ st = ⟨[(0, .ptr 0 0 0), (1, vi h), (2, vb b), (6, .ptr 1 0 0), (7, .ptr 2 0 0), (8, .lsl 4 0 4), (9, .lsl 5 0 4), (10, vi i), (11, vi rules), (12, vi v)], [tapeRow n g at', rZA, rA (k + 1) 3, vRow cD 21 (k + 1) (lF dD l), oRow cSt 1 4 (lF ⟨#[]⟩ nmsR), oRow cT 4 4 (lF t0 tysR)]⟩) 2 ⟨_, _, _, 0, k, l, by assumption, by assumption, by omega, rfl, hlk, hA, rfl⟩ ?_
      clear hlk hA b1 b2
      rintro _ _ ⟨b, at', rules, v, k, l, b1, b2, hv, rfl, hlk, hA, rfl⟩
      have hkl := hA.len
      have iX := iX rules
      repeat' (first | refine yo ?_ ?_ | refine yw ?_ ?_ | refine yk ?_ ?_ | exact trivial | with_reducible refine wA ?_ ?_ | refine ys ?_ ?_ | refine xs_done ?_ | refine yl ?_ ?_ | (exact (show ¬ (2 : Int) = 0 from by decide)) | (refine tn1 hn ?_; rintro at_ b1 b2 x hx1 hx2) | refine w8 ?_ | refine w9 ?_ | refine w1 ?_ | refine w2 ?_ | refine w3 ?_ | refine w4 ?_ | refine w5 ?_ | refine w6 ?_ | refine w7 ?_ | refine yo0 ?_ ?_ | refine yw0 ?_ ?_ | exact qq | fail)
      have hwq : IntKind.i64.wrap (x.tdiv 2) = x.tdiv 2 := by
        have : x.tdiv 2 = x / 2 := Int.tdiv_eq_ediv_of_nonneg hx1
        rw [this]; exact w64 (by omega) (by omega)
      have htd : x.tdiv 2 = x / 2 := Int.tdiv_eq_ediv_of_nonneg hx1
      refine pcond rfl ?_ ?_ <;> intro hc4 <;> simp at hc4
      · have hv1 : v ≤ 1 := by omega
        have hwv : IntKind.i64.wrap ((v : Int) + 1) = ((v + 1 : Nat) : Int) := w64 (by omega) (by omega)
        have hwd : IntKind.i64.wrap (20454 + IntKind.i64.wrap (5 * (v : Int))) = 20454 + 5 * (v : Int) := by rw [w64 (n := 5 * (v : Int)) (by omega) (by omega), w64 (by omega) (by omega)]
        repeat' (first | refine yo ?_ ?_ | refine yw ?_ ?_ | refine yk ?_ ?_ | exact trivial | with_reducible refine wA ?_ ?_ | refine ys ?_ ?_ | refine xs_done ?_ | refine yl ?_ ?_ | refine xs_startH (id := 16) [1,2,4,5] true [.take 0, .take 1, .take 2, .take 3, .take 4, .take 5, .take 6, .take 7, .take 8, .take 9, .take 10, .take 11, .take 12, .take 13, .take 14, .take 15, .take 16, .take 17, .take 18, .take 19, .one 20, .take 21, .one 22, .one 23, .take 24, .one 25] 0 rfl (by kernel_rfl) ?_ | exact ⟨Nat.le_refl _, (by rw [hk]; exact Nat.le_of_ble_eq_true rfl), Nat.le_of_eq (Nat.zero_add _), (show (_ : Nat) * 216 ≤ 140737488355328 from by omega), (show (_ : Nat) ≤ 9223372036854775807 from by omega)⟩ | (refine t1 iX hn ?_; rintro at_ _ b1 b2 ⟨e, rfl, he⟩) | (refine t2 iX hn ?_; rintro at_ _ b1 b2 ⟨e, rfl, he⟩) | (refine t3 iX hn ?_; rintro at_ _ b1 b2 ⟨e, rfl, he⟩) | refine w8 ?_ | refine w9 ?_ | refine w1 ?_ | refine w2 ?_ | refine w3 ?_ | refine w4 ?_ | refine w5 ?_ | refine w6 ?_ | refine w7 ?_ | refine yo0 ?_ ?_ | refine yw0 ?_ ?_ | exact qq | fail)
        refine xdone ?_
        rw [hwv, hwd, i0]
        have ht := rule_tab (i := i) (by omega)
        have hks := ks_rule (i := i) (v := v) (by omega) (by omega)
        exact kloop_next (st' := ⟨[(0, .ptr 0 0 0), (1, vi h), (2, vb b), (6, .ptr 1 0 0), (7, .ptr 2 0 0), (8, .lsl 4 0 4), (9, .lsl 5 0 4), (10, vi i), (11, vi rules), (12, vi ((v + 1 : Nat) : Int))], [tapeRow n g _, rZA, rA (k + 1 + 1) 3, vRow cD 21 (k + 1 + 1) (lF dD (l ++ [dR (lF ⟨#[]⟩ nmsR i) (lF t0 tysR i) (20454 + 5 * v) e])), oRow cSt 1 4 (lF ⟨#[]⟩ nmsR), oRow cT 4 4 (lF t0 tysR)]⟩) (2 - (v + 1)) (can_rowsv [0, 1, 2, 7, 4, 5] (k0_sel hk rfl) rfl (.cons rfl (RowEq.cl (tape_cl _ _ _)) (.cons rfl rqq (.cons rfl rqq (.cons rfl (app_p cD_cl (by assumption) (fun b hb => by rcases split21 hb with rfl | rfl | rfl | rfl | rfl | rfl | rfl | rfl | rfl | rfl | rfl | rfl | rfl | rfl | rfl | rfl | rfl | rfl | rfl | rfl | rfl <;> first | exact PEq.refl _ | exact peq_nil) rfl) (.cons rfl (RowEq.cl (o_cl cSt_cl _ _ _)) (.cons rfl (RowEq.cl (o_cl cT_cl _ _ _)) .nil)))))) tmq) (by omega) ⟨b, _, rules, v + 1, k + 1, _, by assumption, by assumption, by omega, rfl, by rw [List.length_append, hlk]; rfl, hA.snoc (by omega) (d := dR (lF ⟨#[]⟩ nmsR i) (lF t0 tysR i) (20454 + 5 * v) e) hks.symm (gd_rule (he.mono (by omega)) h32 ht.1 ht.2.1 ht.2.2 (by omega)), rfl⟩
      · repeat' (first | refine yo ?_ ?_ | refine yw ?_ ?_ | refine yk ?_ ?_ | exact trivial | with_reducible refine wA ?_ ?_ | refine ys ?_ ?_ | refine xs_done ?_ | refine yl ?_ ?_ | refine w8 ?_ | refine w9 ?_ | refine w1 ?_ | refine w2 ?_ | refine w3 ?_ | refine w4 ?_ | refine w5 ?_ | refine w6 ?_ | refine w7 ?_ | refine yo0 ?_ ?_ | refine yw0 ?_ ?_ | exact qq | fail)
        rw [hwi]
        exact kloop_next (st' := ⟨[(0, .ptr 0 0 0), (1, vi h), (2, vb b), (6, .ptr 1 0 0), (7, .ptr 2 0 0), (8, .lsl 4 0 4), (9, .lsl 5 0 4), (10, vi ((i + 1 : Nat) : Int))], [tapeRow n g _, rZA, rA (k + 1) 3, vRow cD 21 (k + 1) (lF dD l), oRow cSt 1 4 (lF ⟨#[]⟩ nmsR), oRow cT 4 4 (lF t0 tysR)]⟩) (4 - (i + 1)) (can_rowsv [0, 1, 2, 3, 4, 5] (k0_sel hk rfl) rfl (.cons rfl (RowEq.cl (tape_cl _ _ _)) (.cons rfl rqq (.cons rfl rqq (.cons rfl (RowEq.cl (v_cl cD_cl _ _ _)) (.cons rfl (RowEq.cl (o_cl cSt_cl _ _ _)) (.cons rfl (RowEq.cl (o_cl cT_cl _ _ _)) .nil)))))) tmq) (by omega) ⟨b, _, i + 1, k, l, by assumption, by assumption, by omega, rfl, hlk, (by
          rcases (by omega : v = 1 ∨ v = 2) with rfl | rfl
          · exact hA.skip (by omega) (.inl (ks_skip (by omega)))
          · exact hA), rfl⟩
  · obtain rfl : i = 4 := by omega
    repeat' (first | refine yo ?_ ?_ | refine yw ?_ ?_ | refine yk ?_ ?_ | exact trivial | with_reducible refine wA ?_ ?_ | refine ys ?_ ?_ | refine xs_done ?_ | refine yl ?_ ?_ | refine w8 ?_ | refine w9 ?_ | refine w1 ?_ | refine w2 ?_ | refine w3 ?_ | refine w4 ?_ | refine w5 ?_ | refine w6 ?_ | refine w7 ?_ | refine yo0 ?_ ?_ | refine yw0 ?_ ?_ | exact qq | fail)
    refine kblock_hit rfl ?_
    exact kcut (st' := ⟨[(0, .ptr 0 0 0), (1, vi h), (6, .ptr 1 0 0), (7, .ptr 2 0 0)], [tapeRow n g at', rZA, rA (k + 1) 3, vRow cD 21 (k + 1) (lF dD l)]⟩) (can_rowsv [0, 1, 2, 3] (k0_sel hk rfl) rfl (.cons rfl (RowEq.cl (tape_cl _ _ _)) (.cons rfl rqq (.cons rfl rqq (.cons rfl (RowEq.cl (v_cl cD_cl _ _ _)) .nil)))) tmq) ⟨at', k, l, b1, b2, hlk, hA, rfl⟩
def RowsR (τ : Nat → Option Nat) : List Row → List Row → Prop
  | [], [] => True
  | r :: rs, q :: qs => RowEq (r.ren τ) q ∧ RowsR τ rs qs
  | _, _ => False
theorem RowsR.get {τ : Nat → Option Nat} : ∀ (rows rows2 : List Row), RowsR τ rows rows2 → rows.length = rows2.length ∧ ∀ (i : Nat) (q : Row), rows2[i]? = some q → ∃ r, rows[i]? = some r ∧ RowEq (r.ren τ) q
  | [], [], _ => ⟨rfl, fun i q h => by simp at h⟩
  | r :: rs, q :: qs, h => by
    obtain ⟨h1, h2⟩ := RowsR.get rs qs h.2
    refine ⟨by simp [h1], fun i x hx => ?_⟩
    cases i with
    | zero => simp at hx; subst hx; exact ⟨r, rfl, h.1⟩
    | succ i => exact h2 i x (by simpa using hx)
  | [], _ :: _, h => h.elim
  | _ :: _, [], h => h.elim
theorem putPl_eq2 (τ : Nat → Option Nat) : ∀ (s : List Nat) (rows rows2 mem mem' : List Row), RowsR τ rows rows2 → mem'.length = mem.length → (∀ (l : Nat) (r' : Row), mem'[l]? = some r' → ∃ r : Row, mem[l]? = some r ∧ RowEq r r') →
    (putPl s rows2 mem').length = (putRows τ s rows mem).length ∧ ∀ (l : Nat) (r' : Row), (putPl s rows2 mem')[l]? = some r' → ∃ r : Row, (putRows τ s rows mem)[l]? = some r ∧ RowEq r r'
  | [], ext, ext2, mem, mem', hc, hl, he => by
    obtain ⟨g1, g2⟩ := RowsR.get ext ext2 hc
    refine ⟨by simp [putPl, putRows, hl, g1], fun l r' h => ?_⟩
    rw [putPl] at h
    rw [putRows]
    by_cases hlt : l < mem'.length
    · rw [List.getElem?_append_left hlt] at h
      rw [List.getElem?_append_left (by omega)]
      exact he l r' h
    · rw [List.getElem?_append_right (by omega)] at h
      rw [List.getElem?_append_right (by omega), List.getElem?_map]
      rw [hl] at h
      obtain ⟨r, e1, e2⟩ := g2 _ _ h
      exact ⟨r.ren τ, by rw [e1]; rfl, e2⟩
  | x :: s, r :: rows, q :: rows2, mem, mem', hc, hl, he => by
    rw [putPl, putRows]
    refine putPl_eq2 τ s rows rows2 _ _ hc.2 (by simp [hl]) (fun l r' h => ?_)
    by_cases e : l = x
    · subst e
      by_cases hlt : l < mem'.length
      · rw [List.getElem?_set_self hlt] at h
        simp only [Option.some.injEq] at h
        subst h
        exact ⟨r.ren τ, List.getElem?_set_self (by omega), hc.1⟩
      · rw [List.getElem?_eq_none (by simp; omega)] at h; cases h
    · rw [List.getElem?_set_ne (Ne.symm e)] at h
      rw [List.getElem?_set_ne (Ne.symm e)]
      exact he l r' h
  | _ :: _, [], [], mem, mem', _, hl, he => ⟨by simp [putPl, putRows, hl], fun l r' h => he l r' h⟩
  | _ :: _, [], _ :: _, _, _, hc, _, _ => hc.elim
  | _ :: _, _ :: _, [], _, _, hc, _, _ => hc.elim
section
variable {G : Pg} {N : Nat} {Γ : Fr} {st : PSt}
variable {K : Exit → PSt → Prop} {ops : Array Oper} {o : Oper} {rest : List Oper} {d : Nat}
theorem pop_rowsd {f : FuncId} {x : Operand} {args : Array Operand} {tys : Array TypeId} {n : Nat} {c : Nat → PV} {rows : List Row} {qs : List PV} {post : PV → List Row → Prop} (sel : List Nat) (hg : o.guard = none) (hdst : o.dst = some d) (hN : Nat.blt d N = true)
    (ho : o.op = .call ⟨.value x, args, tys⟩) (hx : st.ev x = .clo f n c) (hd : nodupB sel = true) (hs : SelOk st.mem sel sel rows) (hc : RowsC G.P f rows qs post) (ha : PEqL ((args.toList.map st.ev ++ capL n c 0).map (PV.ren (inv sel 0))) qs)
    (h : ∀ r rows', post r rows' → ∃ rows2 m r', RowsR (tau sel (lenK st.mem 0)) rows' rows2 ∧ putP sel rows2 st.mem some = some m ∧ PEq (r.ren (tau sel (lenK st.mem 0))) r' ∧ POps G N Γ ops rest (PSt.put ⟨st.tm, m⟩ d r') K) : POps G N Γ ops (o :: rest) st K := .mk fun ρ I a w hrel => by
  have hw : Region.wanted o (yielded ops a.tmps) = true := by simp [Region.wanted, hg]
  simp only [wpList, hw, if_true]
  refine .inl (rows_core sel hrel ho (hx ▸ ev_rel hrel x) hd hs hc ha ?_)
  intro v r rows' ρ2 I' w' hpost hr _ hv
  obtain ⟨rows2, m, r', e0, e1, e2, hk⟩ := h r rows' hpost
  rw [putP_eq] at e1
  rw [lenK_eq, Nat.zero_add] at e0 e2
  simp only [Option.some.injEq] at e1
  obtain ⟨q1, q2⟩ := putPl_eq2 (tau sel st.mem.length) sel rows' rows2 st.mem st.mem e0 rfl (fun l r' h => ⟨r', h, RowEq.refl _⟩)
  have hr2 := hr.rowsEq q1 q2
  rw [← q1] at hv
  rw [e1] at hr2 hv
  simp only [hdst]
  exact hk.go ρ2 I' _ w' (hr2.put (by rwa [Nat.blt_eq] at hN) (e2 _ _ _ _ _ hv))
end
theorem peqA {τ : Nat → Option Nat} {nm : ByteArray} {l l' i n : Nat} (h : τ l = some l') : PEq ((PV.agg 2 (nthP [vs nm, .lsl l i n])).ren τ) (.agg 2 (nthP [vs nm, .lsl l' i n])) :=
  (show PEq (.agg 2 _) (.agg 2 _) from PEq.agg fun j hj => by
    rcases (by omega : j = 0 ∨ j = 1) with rfl | rfl
    · exact PEq.refl _
    · show PEq (match τ l with | some l' => PV.lsl l' i n | none => .junk) (.lsl l' i n)
      rw [h]; exact PEq.refl _)
theorem rA_eq {τ : Nat → Option Nat} {k l l' : Nat} (h : τ l = some l') : RowEq (Row.ren τ (rA (k + 1) l)) (rA (k + 1) l') := ⟨rfl, rfl, Nat.le_refl _, fun i hi j hj => by
  have hj : j < 2 := hj
  rcases (by omega : j = 0 ∨ j = 1) with rfl | rfl
  · exact PEq.refl _
  · show PEq (match τ l with | some l' => PV.lsl l' 0 (k + 1) | none => .junk) (.lsl l' 0 (k + 1))
    rw [h]; exact PEq.refl _⟩
theorem agreement4_r (h : Nat) (hh : h ≤ 5) (wild : Bool) (n : Nat) (g : Nat → Int) (at_ : Int) (hn : n ≤ 9223372036854775807) (h1' : 0 ≤ at_) (h2' : at_ ≤ n) : RowsC G.P 13 [tapeRow n g at_] [.ptr 0 0 0, vi (h + 1 : Nat), vb wild] (agrPost (h + 1) n g) :=
  agreement_r (h + 1) (by omega) (by omega) (fun t ht rules => expr_t h hh t ht rules) wild n g at_ hn h1' h2'
theorem argAgr {mem : List Row} {L : List Nat} {nm : ByteArray} {l : List Df} {p : PV} (h : ArgOk mem L p (vDs l)) : ArgOk mem L (.agg 2 (nthP [vs nm, p])) (vA nm l) := argAggL fun i hi => by
  rcases (by omega : i = 0 ∨ i = 1) with rfl | rfl
  · exact argVal
  · exact h
end Go.Proofs.YtdifpajpheemaaaGreatDoor
namespace Go.Proofs.YtdifpajpheemaaaGreatDoor
structure EnvOk (N : List In) (S : List Df) (P : List Pa) : Prop where
  pos : 0 < N.length
  len : N.length ≤ 100
  slen : S.length ≤ 100
  bn : ∀ x, x ∈ N → -9223372036854775808 ≤ x.n ∧ x.n ≤ 9223372036854775807
  bs : ∀ d, d ∈ S → BdS d
  s : ∃ d, d ∈ S ∧ d.kind = 2 ∧ d.nm.toList = n_s.toList
  p : ∃ (k0 k1 : Nat) (f0 f1 : Nat → Int × Int), P = [⟨n_gross, k0, f0⟩, ⟨n_time, k1, f1⟩] ∧ BdP ⟨n_gross, k0, f0⟩ ∧ BdP ⟨n_time, k1, f1⟩
theorem EnvOk.bd {N : List In} {S : List Df} {P : List Pa} (h : EnvOk N S P) : BdV N S P := by
  obtain ⟨k0, k1, f0, f1, rfl, b0, b1⟩ := h.p
  refine ⟨by have := h.len; omega, by have := h.slen; omega, by simp, h.bn, h.bs, fun p hp => ?_⟩
  simp only [List.mem_cons, List.not_mem_nil, or_false] at hp
  rcases hp with rfl | rfl
  · exact b0
  · exact b1
theorem AGood.sc {h : Nat} {l : List Df} (hA : AGood h l) : (l.filter isSc).length ≤ 100 ∧ (∀ d, d ∈ l.filter isSc → BdS d) ∧ ∃ d, d ∈ l.filter isSc ∧ d.kind = 2 ∧ d.nm.toList = n_s.toList := by
  refine ⟨?_, fun d hd => ?_, ?_⟩
  · have := List.length_filter_le isSc l; have := hA.len; omega
  · have := (hA.all d (List.mem_filter.1 hd).1).bd
    exact ⟨by have := this.ne; omega, this.ef⟩
  · obtain ⟨d, hd, he⟩ := List.mem_map.1 (hA.has n_s mm)
    have ht := (hA.all d hd).tab
    rw [he] at ht
    have := tab_one _ ht (n_s, 2, t0) mm rfl
    simp only [Prod.mk.injEq] at this
    exact ⟨d, List.mem_filter.2 ⟨hd, by simp [isSc, this.1]⟩, this.1, by rw [he]⟩
theorem decL_bd {x : Int × Int} (h : x ∈ decL) : -9223372036854775808 ≤ x.1 ∧ x.1 ≤ 9223372036854775807 := by
  have key : ∀ x ∈ decL, -9223372036854775808 ≤ x.1 ∧ x.1 ≤ 9223372036854775807 := by decide +kernel
  exact key x h
theorem appf_l {α : Type} {c : α → List PV} {sz m : Nat} {d : α} {l : List α} {y : α} {L : List PV} (hl : l.length = m) (hL : L = c y) (a : Nat) (ha : a < m + 1) (b : Nat) : appF m (fun x => tF c (lF d l) (0 + x)) (fun x b => nthP L ((0 + x) * sz + b)) a b = nthP (c (lF d (l ++ [y]) a)) b := by
  subst hL hl
  by_cases e : a < l.length
  · rw [appF_lt _ _ e, Nat.zero_add, lF_lt e]; rfl
  · obtain rfl : a = l.length := by omega
    rw [appF_ge _ _ (Nat.le_refl _), Nat.sub_self, Nat.zero_add, Nat.zero_mul, Nat.zero_add, lF_at]
abbrev nms4 : List ByteArray := [n_r1, n_r2, n_r4, n_a]
theorem bn_snoc {N : List In} {x : In} (h : ∀ y, y ∈ N → -9223372036854775808 ≤ y.n ∧ y.n ≤ 9223372036854775807) (hx : -9223372036854775808 ≤ x.n ∧ x.n ≤ 9223372036854775807) : ∀ y, y ∈ N ++ [x] → -9223372036854775808 ≤ y.n ∧ y.n ≤ 9223372036854775807 := fun y hy => by
  rcases List.mem_append.1 hy with hy | hy
  · exact h y hy
  · obtain rfl : y = x := by simpa using hy
    exact hx
theorem argAd {mem : List Row} {L : List Nat} {l k : Nat} {D : List Df} (hr : rowAt mem l = some (oRow cD 21 (k + 1) (lF dD D))) (hk : D.length = k + 1) (hL : l ∈ L) : ArgOk mem L (.agg 2 (nthP [vs n_metal, .lsl l 0 (k + 1)])) (vA n_metal D) := argAgr (by have := arg_o (s := .own) (L := L) cD_cl hr trivial hL; rw [← hk] at this ⊢; exact this)
set_option maxHeartbeats 8000000 in
theorem env_t : TapC G.P 5 [] (fun r => ∃ N S P, r = .tup 3 (nthP [vIns N, vDs S, vPas P]) ∧ EnvOk N S P) := by
  intro n g at_ hn h1 h2
  refine ptr_of (G := G.toPg) (fn := Tryz.f5) Tryz.func5 rfl rfl rfl ?_; intro Γ hk
  repeat' (first | refine yo ?_ ?_ | refine yw ?_ ?_ | refine yk ?_ ?_ | exact trivial | with_reducible refine wA ?_ ?_ | refine ys ?_ ?_ | refine xs_done ?_ | refine yl ?_ ?_ | refine w8 ?_ | refine w9 ?_ | refine w1 ?_ | refine w2 ?_ | refine w3 ?_ | refine w4 ?_ | refine w5 ?_ | refine w6 ?_ | refine w7 ?_ | refine yo0 ?_ ?_ | refine yw0 ?_ ?_ | exact qq | fail)
  refine pop_rowsd [0] rfl rfl rfl rfl rfl rfl (by exact .cons rfl trivial (RowEq.cl (tape_cl _ _ _)) .nil) (agreement4_r 1 (by omega) false n g at_ hn h1 h2) (by exact ⟨PEq.refl _, PEq.refl _, PEq.refl _, trivial⟩) ?_
  rintro r rows ⟨at_, k, l, b1, b2, hlk, hA, rfl, rfl⟩
  refine ⟨[tapeRow n g at_, rA (k + 1) 2, oRow cD 21 (k + 1) (lF dD l)], _, .agg 2 (nthP [vs n_metal, .lsl 2 0 (k + 1)]), ⟨RowEq.cl (tape_cl _ _ _), rA_eq rfl, RowEq.cl (o_cl cD_cl _ _ _), trivial⟩, rfl, peqA rfl, ?_⟩
  repeat' (first | refine yo ?_ ?_ | refine yw ?_ ?_ | refine yk ?_ ?_ | exact trivial | with_reducible refine wA ?_ ?_ | refine ys ?_ ?_ | refine xs_done ?_ | refine yl ?_ ?_ | refine w8 ?_ | refine w9 ?_ | refine w1 ?_ | refine w2 ?_ | refine w3 ?_ | refine w4 ?_ | refine w5 ?_ | refine w6 ?_ | refine w7 ?_ | refine yo0 ?_ ?_ | refine yw0 ?_ ?_ | exact qq | fail)
  obtain ⟨hsl, hsb, hss⟩ := hA.sc
  refine pop_callc [2] rfl rfl rfl rfl rfl rfl (fun l' hl => by simp at hl; omega) (names20_c n_metal l (by have := hA.len; omega)) ⟨argAd rfl hlk (List.Mem.head _), trivial⟩ ?_
  rintro _ rfl
  generalize l.filter isSc = S at *
  repeat' (first | refine yo ?_ ?_ | refine yw ?_ ?_ | refine yk ?_ ?_ | exact trivial | with_reducible refine wA ?_ ?_ | refine ys ?_ ?_ | refine xs_done ?_ | refine yl ?_ ?_ | refine w8 ?_ | refine w9 ?_ | refine w1 ?_ | refine w2 ?_ | refine w3 ?_ | refine w4 ?_ | refine w5 ?_ | refine w6 ?_ | refine w7 ?_ | refine yo0 ?_ ?_ | refine yw0 ?_ ?_ | exact qq | fail)
  refine pop_rowsd [0] rfl rfl rfl rfl rfl rfl (by exact .cons rfl trivial (RowEq.cl (tape_cl _ _ _)) .nil) (inputs_r n g at_ hn b1 b2) (by exact ⟨PEq.refl _, trivial⟩) ?_
  rintro r rows ⟨at_, k, N, b1, b2, hN, hI, rfl, rfl⟩
  refine ⟨[tapeRow n g at_, oRow cIn 3 (k + 1) (lF dIn N)], _, .lsl 3 0 (k + 1), ⟨RowEq.cl (tape_cl _ _ _), RowEq.cl (o_cl cIn_cl _ _ _), trivial⟩, rfl, PEq.refl _, ?_⟩
  have hNl := hI.len
  have hNb := hI.bd
  clear hI
  repeat' (first | refine yo ?_ ?_ | refine yw ?_ ?_ | refine yk ?_ ?_ | exact trivial | with_reducible refine wA ?_ ?_ | refine ys ?_ ?_ | refine xs_done ?_ | refine yl ?_ ?_ | refine w8 ?_ | refine w9 ?_ | refine w1 ?_ | refine w2 ?_ | refine w3 ?_ | refine w4 ?_ | refine w5 ?_ | refine w6 ?_ | refine w7 ?_ | refine yo0 ?_ ?_ | refine yw0 ?_ ?_ | exact qq | fail)
  refine pcan (st' := ⟨[(0, .ptr 0 0 0), (6, vDs S), (8, .lsl 1 0 (k + 1)), (20, .lsl 2 0 4), (21, vi ((4 : Nat) : Int)), (22, vi ((0 : Nat) : Int))], [tapeRow n g at_, oRow cIn 3 (k + 1) (lF dIn N), oRow cSt 1 4 (lF ⟨#[]⟩ nms4)]⟩) (can_rowsv [0, 3, 4] (k0_sel hk rfl) rfl (.cons rfl (RowEq.cl (tape_cl _ _ _)) (.cons rfl (RowEq.cl (o_cl cIn_cl _ _ _)) (.cons rfl (o_eq cSt_cl (Nat.le_refl _) (fun a ha b hb => by
    have hb : b < 1 := hb
    obtain rfl : b = 0 := by omega
    rcases (by omega : a = 0 ∨ a = 1 ∨ a = 2 ∨ a = 3) with rfl | rfl | rfl | rfl <;> rfl)) .nil))) tmq) ?_
  refine ploop (fun q st => ∃ (at' : Int) (i k : Nat) (N : List In), 0 ≤ at' ∧ at' ≤ n ∧ i ≤ 4 ∧ q = 4 - i ∧ N.length = k + 1 ∧ k + 1 ≤ 10 + i ∧ (∀ x, x ∈ N → -9223372036854775808 ≤ x.n ∧ x.n ≤ 9223372036854775807) ∧ st = ⟨[(0, .ptr 0 0 0), (6, vDs S), (8, .lsl 1 0 (k + 1)), (20, .lsl 2 0 4), (21, vi ((4 : Nat) : Int)), (22, vi i)], [tapeRow n g at', oRow cIn 3 (k + 1) (lF dIn N), oRow cSt 1 4 (lF ⟨#[]⟩ nms4)]⟩) 4 ⟨at_, 0, k, N, b1, b2, by omega, rfl, hN, by omega, hNb, rfl⟩ ?_
  clear hN hNl hNb b1 b2
  rintro _ _ ⟨at', i, k, N, b1, b2, hi, rfl, hN, hNl, hNb, rfl⟩
  have hwi : IntKind.i64.wrap ((i : Int) + 1) = ((i + 1 : Nat) : Int) := w64 (by omega) (by omega)
  repeat' (first | refine yo ?_ ?_ | refine yw ?_ ?_ | refine yk ?_ ?_ | exact trivial | with_reducible refine wA ?_ ?_ | refine ys ?_ ?_ | refine xs_done ?_ | refine yl ?_ ?_ | refine w8 ?_ | refine w9 ?_ | refine w1 ?_ | refine w2 ?_ | refine w3 ?_ | refine w4 ?_ | refine w5 ?_ | refine w6 ?_ | refine w7 ?_ | refine yo0 ?_ ?_ | refine yw0 ?_ ?_ | exact qq | fail)
  refine pcond rfl ?_ ?_ <;> intro hc <;> simp at hc
  · repeat' (first | refine yo ?_ ?_ | refine yw ?_ ?_ | refine yk ?_ ?_ | exact trivial | with_reducible refine wA ?_ ?_ | refine ys ?_ ?_ | refine xs_done ?_ | refine yl ?_ ?_ | (refine tn1 hn ?_; rintro at_ b1 b2 x hx1 hx2) | refine w8 ?_ | refine w9 ?_ | refine w1 ?_ | refine w2 ?_ | refine w3 ?_ | refine w4 ?_ | refine w5 ?_ | refine w6 ?_ | refine w7 ?_ | refine yo0 ?_ ?_ | refine yw0 ?_ ?_ | exact qq | fail)
    refine pcond rfl ?_ ?_ <;> intro hc2
    · repeat' (first | refine yo ?_ ?_ | refine yw ?_ ?_ | refine yk ?_ ?_ | exact trivial | with_reducible refine wA ?_ ?_ | refine ys ?_ ?_ | refine xs_done ?_ | refine yl ?_ ?_ | exact ⟨Nat.le_refl _, (by rw [hk]; exact Nat.le_of_ble_eq_true rfl), Nat.le_of_eq (Nat.zero_add _), (show (_ : Nat) * 32 ≤ 140737488355328 from by omega), (show (_ : Nat) ≤ 9223372036854775807 from by omega)⟩ | (refine t1 decimal_t hn ?_; rintro at_ _ b1 b2 ⟨⟨a, b⟩, rfl, hx⟩) | (refine t2 decimal_t hn ?_; rintro at_ _ b1 b2 ⟨⟨a, b⟩, rfl, hx⟩) | (refine t3 decimal_t hn ?_; rintro at_ _ b1 b2 ⟨⟨a, b⟩, rfl, hx⟩) | refine w8 ?_ | refine w9 ?_ | refine w1 ?_ | refine w2 ?_ | refine w3 ?_ | refine w4 ?_ | refine w5 ?_ | refine w6 ?_ | refine w7 ?_ | refine yo0 ?_ ?_ | refine yw0 ?_ ?_ | exact qq | fail)
      refine xdone ?_
      rw [hwi]
      exact kloop_next (st' := ⟨[(0, .ptr 0 0 0), (6, vDs S), (8, .lsl 1 0 (k + 1 + 1)), (20, .lsl 2 0 4), (21, vi ((4 : Nat) : Int)), (22, vi ((i + 1 : Nat) : Int))], [tapeRow n g _, oRow cIn 3 (k + 1 + 1) (lF dIn (N ++ [⟨lF ⟨#[]⟩ nms4 (0 + (i : Int).toNat), a, b⟩])), oRow cSt 1 4 (lF ⟨#[]⟩ nms4)]⟩) (4 - (i + 1)) (can_rowsv [0, 4, 2] (k0_sel hk rfl) rfl (.cons rfl (RowEq.cl (tape_cl _ _ _)) (.cons rfl (app_l cIn_cl hN rfl rfl) (.cons rfl (RowEq.cl (o_cl cSt_cl _ _ _)) .nil))) tmq) (by omega) ⟨_, i + 1, k + 1, _, b1, b2, by omega, rfl, by rw [List.length_append, hN]; rfl, by omega, bn_snoc hNb (decL_bd hx), rfl⟩
    · repeat' (first | refine yo ?_ ?_ | refine yw ?_ ?_ | refine yk ?_ ?_ | exact trivial | with_reducible refine wA ?_ ?_ | refine ys ?_ ?_ | refine xs_done ?_ | refine yl ?_ ?_ | refine w8 ?_ | refine w9 ?_ | refine w1 ?_ | refine w2 ?_ | refine w3 ?_ | refine w4 ?_ | refine w5 ?_ | refine w6 ?_ | refine w7 ?_ | refine yo0 ?_ ?_ | refine yw0 ?_ ?_ | exact qq | fail)
      refine xdone ?_
      rw [hwi]
      exact kloop_next (st' := ⟨[(0, .ptr 0 0 0), (6, vDs S), (8, .lsl 1 0 (k + 1)), (20, .lsl 2 0 4), (21, vi ((4 : Nat) : Int)), (22, vi ((i + 1 : Nat) : Int))], [tapeRow n g _, oRow cIn 3 (k + 1) (lF dIn N), oRow cSt 1 4 (lF ⟨#[]⟩ nms4)]⟩) (4 - (i + 1)) (can_rowsv [0, 1, 2] (k0_sel hk rfl) rfl (.cons rfl (RowEq.cl (tape_cl _ _ _)) (.cons rfl (RowEq.cl (o_cl cIn_cl _ _ _)) (.cons rfl (RowEq.cl (o_cl cSt_cl _ _ _)) .nil))) tmq) (by omega) ⟨_, i + 1, k, N, b1, b2, by omega, rfl, hN, by omega, hNb, rfl⟩
  · obtain rfl : i = 4 := by omega
    repeat' (first | refine yo ?_ ?_ | refine yw ?_ ?_ | refine yk ?_ ?_ | exact trivial | with_reducible refine wA ?_ ?_ | refine ys ?_ ?_ | refine xs_done ?_ | refine yl ?_ ?_ | (refine tn1 hn ?_; rintro at_ b1 b2 x hx1 hx2) | exact ⟨Nat.le_refl _, (by rw [hk]; exact Nat.le_of_ble_eq_true rfl), Nat.le_of_eq (Nat.zero_add _), (show (_ : Nat) * 32 ≤ 140737488355328 from by omega), (show (_ : Nat) ≤ 9223372036854775807 from by omega)⟩ | (refine t1 past_t hn ?_; rintro at_ _ b1 b2 ⟨p0, p1, f0, f1, rfl, hp0, hp1⟩) | (refine t2 past_t hn ?_; rintro at_ _ b1 b2 ⟨p0, p1, f0, f1, rfl, hp0, hp1⟩) | (refine t3 past_t hn ?_; rintro at_ _ b1 b2 ⟨p0, p1, f0, f1, rfl, hp0, hp1⟩) | refine w8 ?_ | refine w9 ?_ | refine w1 ?_ | refine w2 ?_ | refine w3 ?_ | refine w4 ?_ | refine w5 ?_ | refine w6 ?_ | refine w7 ?_ | refine yo0 ?_ ?_ | refine yw0 ?_ ?_ | exact qq | fail)
    refine xdone ?_
    have hlen : (N ++ [(⟨n_r3, x, 1⟩ : In)]).length = k + 1 + 1 := by rw [List.length_append, hN]; rfl
    exact ktapL [4] rfl b1 b2 (by intro l hl; simp at hl; omega) rfl ⟨trivial, trivial, trivial, trivial⟩ (qs := [vIns (N ++ [(⟨n_r3, x, 1⟩ : In)]), vDs S, vPas [⟨n_gross, p0, f0⟩, ⟨n_time, p1, f1⟩]]) ⟨argIn rfl hlen (Nat.le_refl _) (List.Mem.head _) (fun a ha b hb => appf_l (c := cIn) (sz := 3) (d := dIn) (y := ⟨n_r3, x, 1⟩) hN rfl a ha b), argCl (clB_spec _ rfl), argCl (clB_spec _ rfl), trivial⟩ ⟨_, _, _, rfl, ⟨by omega, by omega, hsl, bn_snoc hNb (by dsimp only; omega), hsb, hss, ⟨_, _, _, _, rfl, hp0, hp1⟩⟩⟩
end Go.Proofs.YtdifpajpheemaaaGreatDoor
