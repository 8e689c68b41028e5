/- payrollgen: Past. -/
import Derived.Test.YtcghpepighboaaaDoorVg1
import Derived.Test.YtcghpepighboaaaDoorX21b
set_option linter.unusedSimpArgs false
set_option linter.unusedVariables false
set_option maxRecDepth 100000
namespace Go.Proofs.YtcghpepighboaaaDoor
abbrev rPs (k0 k1 : Nat) : Row := ⟨.own, false, 2, 2, fun x y => nthP [vs n_gross, slP k0 2, vs n_time, slP k1 3] (x * 2 + y)⟩
def Sml (l : List (Int × Int)) : Prop := ∀ x, x ∈ l → -1000 ≤ x.1 ∧ x.1 ≤ 1000
theorem Sml.snoc {l : List (Int × Int)} (h : Sml l) {a b : Int} (h1 : -1000 ≤ a) (h2 : a ≤ 1000) : Sml (l ++ [(a, b)]) := fun x hx => by
  rcases List.mem_append.1 hx with hx | hx
  · exact h x hx
  · obtain rfl : x = (a, b) := by simpa using hx
    exact ⟨h1, h2⟩
theorem Sml.at {l : List (Int × Int)} (h : Sml l) (i : Nat) : -1000 ≤ (lF (0, 0) l i).1 ∧ (lF (0, 0) l i).1 ≤ 1000 := by
  unfold lF
  rw [List.getD_eq_getElem?_getD]
  by_cases hi : i < l.length
  · rw [List.getElem?_eq_getElem hi]; exact h _ (List.getElem_mem hi)
  · rw [List.getElem?_eq_none (by omega)]; exact ⟨by decide, by decide⟩
theorem c2 {b : Nat} (h : b < 2) : b = 0 ∨ b = 1 := by omega
theorem ps_eq {τ : Nat → Option Nat} {r : Row} {k0 k1 : Nat} (hs : r.s = .own) (ho : r.one = false) (hz : r.sz = 2) (hn : 2 ≤ r.n) (h00 : r.f 0 0 = vs n_gross) (h10 : r.f 1 0 = vs n_time) (h01 : PEq ((r.f 0 1).ren τ) (slP k0 2)) (h11 : PEq ((r.f 1 1).ren τ) (slP k1 3)) : RowEq (r.ren τ) (rPs k0 k1) :=
  ⟨hs.symm, hz.symm, hn, fun i hi j hj => by
    rcases c2 (show i < 2 from hi) with rfl | rfl <;> rcases c2 (show j < 2 from hj) with rfl | rfl
    · show PEq ((r.f 0 0).ren τ) (vs n_gross); rw [h00]; exact PEq.refl _
    · exact h01
    · show PEq ((r.f 1 0).ren τ) (vs n_time); rw [h10]; exact PEq.refl _
    · exact h11⟩
theorem argSl {mem : List Row} {L : List Nat} {l k : Nat} {f : Nat → Nat → PV} {g : Nat → Int × Int} {n : Nat} (hr : rowAt mem l = some ⟨.own, false, n, 2, f⟩) (hn : k ≤ n) (hL : l ∈ L) (hf : ∀ a, a < k → ∀ b, b < 2 → f a b = nthP (cPr (g a)) b) : ArgOk mem L (slP k l) (.vsl k 2 (tF cPr g)) := by
  cases k with
  | zero => exact argNil
  | succ k => exact argLsl (r := ⟨.own, false, n, 2, f⟩) hr trivial hL (by simpa using hn) fun a ha b hb => ⟨by rw [Nat.zero_add]; exact hf a ha b hb, tF_cl (c := cPr) (fun _ => ⟨trivial, trivial, trivial⟩) g a b⟩
theorem argPas {mem : List Row} {L : List Nat} {l n k0 k1 : Nat} {f : Nat → Nat → PV} {f0 f1 : Nat → Int × Int} (hr : rowAt mem l = some ⟨.own, false, n, 2, f⟩) (hn : 2 ≤ n) (hL : l ∈ L) (h00 : f 0 0 = vs n_gross) (h10 : f 1 0 = vs n_time) (h01 : ArgOk mem L (f 0 1) (.vsl k0 2 (tF cPr f0))) (h11 : ArgOk mem L (f 1 1) (.vsl k1 2 (tF cPr f1))) : ArgOk mem L (.lsl l 0 2) (vPas [⟨n_gross, k0, f0⟩, ⟨n_time, k1, f1⟩]) :=
  argLsl' (r := ⟨.own, false, n, 2, f⟩) hr trivial hL (by simpa using hn) fun x hx y hy => by
    rw [Nat.zero_add]
    rcases c2 hx with rfl | rfl <;> rcases c2 (show y < 2 from hy) with rfl | rfl
    · show ArgOk mem L (f 0 0) (vs n_gross); rw [h00]; exact argVal
    · exact h01
    · show ArgOk mem L (f 1 0) (vs n_time); rw [h10]; exact argVal
    · exact h11
def set0 {α : Type} (y : α) (g : Nat → α) : Nat → α
  | 0 => y
  | a + 1 => g (a + 1)
theorem bdp_s (nm : ByteArray) {k : Nat} {l : List (Int × Int)} (hk : k ≤ 4) (hs : Sml l) : BdP ⟨nm, k, lF (0, 0) l⟩ := ⟨by show k ≤ 1000000000; omega, fun i _ => by have := hs.at i; dsimp only; omega⟩
theorem bdp_0 (nm : ByteArray) (f : Nat → Int × Int) : BdP ⟨nm, 0, f⟩ := ⟨Nat.zero_le _, fun i hi => absurd hi (Nat.not_lt_zero i)⟩
theorem bdp_1 (nm : ByteArray) {k : Nat} {l : List (Int × Int)} {u v : Int} (hk : k ≤ 4) (hs : Sml l) (h1 : -9223372036854775808 ≤ u) (h2 : u ≤ 9223372036854775807) : BdP ⟨nm, k, set0 (u, v) (lF (0, 0) l)⟩ := ⟨by show k ≤ 1000000000; omega, fun i _ => by
  cases i with
  | zero => exact ⟨h1, h2⟩
  | succ i => have := hs.at (i + 1); dsimp only [set0]; omega⟩
set_option maxHeartbeats 8000000 in
theorem past_t : TapC G.P 47 [] (fun r => ∃ (k0 k1 : Nat) (f0 f1 : Nat → Int × Int), r = vPas [⟨n_gross, k0, f0⟩, ⟨n_time, k1, f1⟩] ∧ BdP ⟨n_gross, k0, f0⟩ ∧ BdP ⟨n_time, k1, f1⟩) := by
  have next4_t : TapC G.P 18 [vi 4] (fun r => ∃ x : Nat, r = vi x ∧ x < 4) := (next_t 4 (by omega)).mono fun r ⟨x, h, h1, h2⟩ => ⟨x.toNat, by rw [h]; congr; omega, by omega⟩
  have next2_t : TapC G.P 18 [vi 2] (fun r => ∃ x : Int, r = vi x ∧ (x = 0 ∨ x = 1)) := (next_t 2 (by omega)).mono fun r ⟨x, h, h1, h2⟩ => ⟨x, h, by omega⟩
  have cPc : CellsCl cPr := fun _ => ⟨trivial, trivial, trivial⟩
  intro n g at_ hn h1 h2
  refine ptr_of (G := G.toPg) (fn := Tryd.f47) Tryd.func47 rfl rfl rfl ?_; intro Γ hk
  repeat' (first | refine yo ?_ ?_ | refine yw ?_ ?_ | refine yk ?_ ?_ | exact trivial | with_reducible refine wA ?_ ?_ | refine ys ?_ ?_ | refine xs_done ?_ | refine yl ?_ ?_ | refine w8 ?_ | refine w9 ?_ | refine w1 ?_ | refine w2 ?_ | refine w3 ?_ | refine w4 ?_ | refine w5 ?_ | refine w6 ?_ | refine w7 ?_ | refine yo0 ?_ ?_ | refine yw0 ?_ ?_ | exact qq | fail)
  refine pcan (can_virt (vRow cPr 2 0 (lF (0, 0) [])) rfl) ?_
  refine pcan (can_virt (vRow cPr 2 0 (lF (0, 0) [])) rfl) ?_
  refine pcan (st' := ⟨[(0, .ptr 0 0 0), (3, .lsl 1 0 2), (4, vi ((0 : Nat) : Int))], [tapeRow n g at_, rPs 0 0, vRow cPr 2 0 (lF (0, 0) []), vRow cPr 2 0 (lF (0, 0) [])]⟩) (can_rowsv [0, 1, 2, 3] (k0_sel hk rfl) rfl (.cons rfl (RowEq.cl (tape_cl _ _ _)) (.cons rfl (ps_eq rfl rfl rfl (Nat.le_refl _) rfl rfl (PEq.refl _) (PEq.refl _)) (.cons rfl (RowEq.cl (v_cl cPc _ _ _)) (.cons rfl (RowEq.cl (v_cl cPc _ _ _)) .nil)))) tmq) ?_
  refine ploop (fun q st => ∃ (at' : Int) (i k0 k1 : Nat) (l0 l1 : List (Int × Int)), 0 ≤ at' ∧ at' ≤ n ∧ q = 2 - i ∧ (i = 0 ∧ k0 = 0 ∧ k1 = 0 ∨ i = 1 ∧ 0 < k0 ∧ k1 = 0 ∨ i = 2 ∧ 0 < k0 ∧ 0 < k1) ∧ k0 ≤ 4 ∧ k1 ≤ 4 ∧ l0.length = k0 ∧ l1.length = k1 ∧ Sml l0 ∧ Sml l1 ∧ st = ⟨[(0, .ptr 0 0 0), (3, .lsl 1 0 2), (4, vi i)], [tapeRow n g at', rPs k0 k1, vRow cPr 2 k0 (lF (0, 0) l0), vRow cPr 2 k1 (lF (0, 0) l1)]⟩) 2 ⟨at_, 0, 0, 0, [], [], h1, h2, rfl, .inl ⟨rfl, rfl, rfl⟩, by omega, by omega, rfl, rfl, fun x hx => by simp at hx, fun x hx => by simp at hx, rfl⟩ ?_
  rintro _ _ ⟨at', i, k0, k1, l0, l1, b1, b2, rfl, hi, hk0, hk1, hl0, hl1, hs0, hs1, rfl⟩
  rcases hi with ⟨rfl, rfl, rfl⟩ | ⟨rfl, hp0, rfl⟩ | ⟨rfl, hp0, hp1⟩
  · repeat' (first | refine yo ?_ ?_ | refine yw ?_ ?_ | refine yk ?_ ?_ | exact trivial | with_reducible refine wA ?_ ?_ | refine ys ?_ ?_ | refine xs_done ?_ | refine yl ?_ ?_ | (refine t1 next4_t hn ?_; rintro at_ _ b1 b2 ⟨x, rfl, hx⟩) | (refine t2 next4_t hn ?_; rintro at_ _ b1 b2 ⟨x, rfl, hx⟩) | (refine t3 next4_t hn ?_; rintro at_ _ b1 b2 ⟨x, rfl, hx⟩) | refine w8 ?_ | refine w9 ?_ | refine w1 ?_ | refine w2 ?_ | refine w3 ?_ | refine w4 ?_ | refine w5 ?_ | refine w6 ?_ | refine w7 ?_ | refine yo0 ?_ ?_ | refine yw0 ?_ ?_ | exact qq | fail)
    rw [show IntKind.i64.wrap (1 + (x : Int)) = ((x + 1 : Nat) : Int) from by rw [w64 (by omega) (by omega)]; omega]
    refine pcan (st' := ⟨[(0, .ptr 0 0 0), (3, .lsl 1 0 2), (4, vi ((0 : Nat) : Int)), (5, vi ((x + 1 : Nat) : Int))], [tapeRow n g at_, rPs 0 0, vRow cPr 2 0 (lF (0, 0) l0), vRow cPr 2 0 (lF (0, 0) l1)]⟩) (can_rowsv [0, 1, 2, 3] (k0_sel hk rfl) rfl (.cons rfl (RowEq.cl (tape_cl _ _ _)) (.cons rfl (ps_eq rfl rfl rfl (Nat.le_refl _) rfl rfl (PEq.refl _) (PEq.refl _)) (.cons rfl (RowEq.cl (v_cl cPc _ _ _)) (.cons rfl (RowEq.cl (v_cl cPc _ _ _)) .nil)))) tmq) ?_
    refine ploop (fun q st => ∃ (at' : Int) (m k0 : Nat) (l0 : List (Int × Int)), 0 ≤ at' ∧ at' ≤ n ∧ q = m ∧ k0 + m = x + 1 ∧ l0.length = k0 ∧ Sml l0 ∧ st = ⟨[(0, .ptr 0 0 0), (3, .lsl 1 0 2), (4, vi ((0 : Nat) : Int)), (5, vi m)], [tapeRow n g at', rPs k0 0, vRow cPr 2 k0 (lF (0, 0) l0), vRow cPr 2 0 (lF (0, 0) l1)]⟩) (x + 1) ⟨at_, x + 1, 0, l0, b1, b2, rfl, by omega, hl0, hs0, rfl⟩ ?_
    clear hl0 hs0 b1 b2 l0
    rintro q _ ⟨at', m, k0, l0, b1, b2, hq, hkm, hl, hs, rfl⟩
    have hq := hq.symm
    subst hq
    repeat' (first | refine yo ?_ ?_ | refine yw ?_ ?_ | refine yk ?_ ?_ | exact trivial | with_reducible refine wA ?_ ?_ | refine ys ?_ ?_ | refine xs_done ?_ | refine yl ?_ ?_ | refine w8 ?_ | refine w9 ?_ | refine w1 ?_ | refine w2 ?_ | refine w3 ?_ | refine w4 ?_ | refine w5 ?_ | refine w6 ?_ | refine w7 ?_ | refine yo0 ?_ ?_ | refine yw0 ?_ ?_ | exact qq | fail)
    refine pcond rfl ?_ ?_ <;> intro hc <;> simp at hc
    · obtain ⟨m, rfl⟩ : ∃ m', m = m' + 1 := ⟨m - 1, by omega⟩
      have hw : IntKind.i64.wrap (((m + 1 : Nat) : Int) - 1) = (m : Int) := by rw [w64 (by omega) (by omega)]; omega
      rcases k0 with _ | k0
      all_goals
        repeat' (first | refine yo ?_ ?_ | refine yw ?_ ?_ | refine yk ?_ ?_ | exact trivial | with_reducible refine wA ?_ ?_ | refine ys ?_ ?_ | refine xs_done ?_ | refine yl ?_ ?_ | refine xs_start (id := 13) true [.take 0, .take 1, .take 6, .one 2, .take 3, .take 4, .take 5, .one 7, .take 8, .one 9] 0 rfl rfl (by kernel_rfl) ?_ | refine xs_startH (id := 8) [3] false [.take 0, .take 1, .take 2, .take 3, .take 7] 9 rfl (by kernel_rfl) ?_ | refine BrAll.cons ?_ ?_ | exact BrAll.nil | refine xs_brT (n := 14) [0, 1, 2, 3, 7] [(4, [], false, 8), (8, [], false, 8)] (by decide +kernel) rfl (by kernel_rfl) (by kernel_rfl) ?_ | refine xs_brT (n := 14) [0, 1, 2, 3, 7, 8] [(4, [], false, 7), (9, [.one 4, .one 5, .one 6, .one 10, .one 11, .one 12, .one 13], true, 0)] (by decide +kernel) rfl (by kernel_rfl) (by kernel_rfl) ?_ | refine xs_brT (n := 14) [0, 1, 2, 3, 4, 7, 8] [(5, [], false, 6), (9, [.one 5, .one 6, .one 10, .one 11, .one 12, .one 13], true, 0)] (by decide +kernel) rfl (by kernel_rfl) (by kernel_rfl) ?_ | refine xs_brT (n := 14) [0, 1, 2, 3, 4, 5, 7, 8] [(6, [.one 9, .one 10, .one 11, .one 12, .one 13], true, 0), (9, [.one 6, .one 10, .one 11, .one 12, .one 13], true, 0)] (by decide +kernel) rfl (by kernel_rfl) (by kernel_rfl) ?_ | refine xs_brT (n := 14) [0, 1, 2, 3, 4, 7] [(5, [], false, 7), (8, [], false, 7)] (by decide +kernel) rfl (by kernel_rfl) (by kernel_rfl) ?_ | refine xs_brT (n := 14) [0, 1, 2, 3, 4, 5, 7] [(6, [.one 8, .one 9, .one 10, .one 11, .one 12, .one 13], true, 0), (8, [], false, 6)] (by decide +kernel) rfl (by kernel_rfl) (by kernel_rfl) ?_ | refine ⟨_, [], true, rfl, rfl, stepOp_pst rfl ?_ ?_⟩ | exact ⟨Nat.le_refl _, (by rw [hk]; exact Nat.le_of_ble_eq_true rfl), Nat.le_of_eq (Nat.zero_add _), (show (_ : Nat) * 16 ≤ 140737488355328 from by omega), (show (_ : Nat) ≤ 9223372036854775807 from by omega)⟩ | (refine t1 small_t hn ?_; rintro at_ _ b1 b2 ⟨a, b, rfl, ha1, ha2, hb⟩) | (refine t2 small_t hn ?_; rintro at_ _ b1 b2 ⟨a, b, rfl, ha1, ha2, hb⟩) | (refine t3 small_t hn ?_; rintro at_ _ b1 b2 ⟨a, b, rfl, ha1, ha2, hb⟩) | refine w8 ?_ | refine w9 ?_ | refine w1 ?_ | refine w2 ?_ | refine w3 ?_ | refine w4 ?_ | refine w5 ?_ | refine w6 ?_ | refine w7 ?_ | refine yo0 ?_ ?_ | refine yw0 ?_ ?_ | exact qq | fail)
        all_goals
          refine xdone ?_
          rw [hw]
          first
            | exact kloop_next (st' := ⟨[(0, .ptr 0 0 0), (3, .lsl 1 0 2), (4, vi ((0 : Nat) : Int)), (5, vi (m : Int))], [tapeRow n g _, rPs (0 + 1) 0, vRow cPr 2 (0 + 1) (lF (0, 0) (l0 ++ [(a, b)])), vRow cPr 2 0 (lF (0, 0) l1)]⟩) m (can_rowsv [0, 1, 5, 3] (k0_sel hk rfl) rfl (.cons rfl (RowEq.cl (tape_cl _ _ _)) (.cons rfl (ps_eq rfl rfl rfl (Nat.le_refl _) rfl rfl (PEq.refl _) (PEq.refl _)) (.cons rfl (app_l0 cPc hl rfl) (.cons rfl (RowEq.cl (v_cl cPc _ _ _)) .nil)))) tmq) (by omega) ⟨_, m, 0 + 1, l0 ++ [(a, b)], by assumption, by assumption, rfl, by omega, by rw [List.length_append, hl]; rfl, hs.snoc ha1 ha2, rfl⟩
            | exact kloop_next (st' := ⟨[(0, .ptr 0 0 0), (3, .lsl 1 0 2), (4, vi ((0 : Nat) : Int)), (5, vi (m : Int))], [tapeRow n g _, rPs (k0 + 1 + 1) 0, vRow cPr 2 (k0 + 1 + 1) (lF (0, 0) (l0 ++ [(a, b)])), vRow cPr 2 0 (lF (0, 0) l1)]⟩) m (can_rowsv [0, 1, 5, 3] (k0_sel hk rfl) rfl (.cons rfl (RowEq.cl (tape_cl _ _ _)) (.cons rfl (ps_eq rfl rfl rfl (Nat.le_refl _) rfl rfl (PEq.refl _) (PEq.refl _)) (.cons rfl (app_l cPc hl rfl rfl) (.cons rfl (RowEq.cl (v_cl cPc _ _ _)) .nil)))) tmq) (by omega) ⟨_, m, k0 + 1 + 1, l0 ++ [(a, b)], by assumption, by assumption, rfl, by omega, by rw [List.length_append, hl]; rfl, hs.snoc ha1 ha2, rfl⟩
    · obtain rfl : m = 0 := by omega
      repeat' (first | refine yo ?_ ?_ | refine yw ?_ ?_ | refine yk ?_ ?_ | exact trivial | with_reducible refine wA ?_ ?_ | refine ys ?_ ?_ | refine xs_done ?_ | refine yl ?_ ?_ | refine w8 ?_ | refine w9 ?_ | refine w1 ?_ | refine w2 ?_ | refine w3 ?_ | refine w4 ?_ | refine w5 ?_ | refine w6 ?_ | refine w7 ?_ | refine yo0 ?_ ?_ | refine yw0 ?_ ?_ | exact qq | fail)
      refine xdone ?_
      exact kloop_next (st' := ⟨[(0, .ptr 0 0 0), (3, .lsl 1 0 2), (4, vi ((1 : Nat) : Int))], [tapeRow n g _, rPs k0 0, vRow cPr 2 k0 (lF (0, 0) l0), vRow cPr 2 0 (lF (0, 0) l1)]⟩) 1 (can_rowsv [0, 1, 2, 3] (k0_sel hk rfl) rfl (.cons rfl (RowEq.cl (tape_cl _ _ _)) (.cons rfl (ps_eq rfl rfl rfl (Nat.le_refl _) rfl rfl (peq_slP rfl) (PEq.refl _)) (.cons rfl (RowEq.cl (v_cl cPc _ _ _)) (.cons rfl (RowEq.cl (v_cl cPc _ _ _)) .nil)))) tmq) (by omega) ⟨_, 1, k0, 0, l0, l1, by assumption, by assumption, rfl, .inr (.inl ⟨rfl, by omega, rfl⟩), by omega, by omega, hl, hl1, hs, hs1, rfl⟩
  · repeat' (first | refine yo ?_ ?_ | refine yw ?_ ?_ | refine yk ?_ ?_ | exact trivial | with_reducible refine wA ?_ ?_ | refine ys ?_ ?_ | refine xs_done ?_ | refine yl ?_ ?_ | (refine t1 next4_t hn ?_; rintro at_ _ b1 b2 ⟨x, rfl, hx⟩) | (refine t2 next4_t hn ?_; rintro at_ _ b1 b2 ⟨x, rfl, hx⟩) | (refine t3 next4_t hn ?_; rintro at_ _ b1 b2 ⟨x, rfl, hx⟩) | refine w8 ?_ | refine w9 ?_ | refine w1 ?_ | refine w2 ?_ | refine w3 ?_ | refine w4 ?_ | refine w5 ?_ | refine w6 ?_ | refine w7 ?_ | refine yo0 ?_ ?_ | refine yw0 ?_ ?_ | exact qq | fail)
    rw [show IntKind.i64.wrap (1 + (x : Int)) = ((x + 1 : Nat) : Int) from by rw [w64 (by omega) (by omega)]; omega]
    refine pcan (st' := ⟨[(0, .ptr 0 0 0), (3, .lsl 1 0 2), (4, vi ((1 : Nat) : Int)), (5, vi ((x + 1 : Nat) : Int))], [tapeRow n g at_, rPs k0 0, vRow cPr 2 k0 (lF (0, 0) l0), vRow cPr 2 0 (lF (0, 0) l1)]⟩) (can_rowsv [0, 1, 2, 3] (k0_sel hk rfl) rfl (.cons rfl (RowEq.cl (tape_cl _ _ _)) (.cons rfl (ps_eq rfl rfl rfl (Nat.le_refl _) rfl rfl (peq_slP rfl) (PEq.refl _)) (.cons rfl (RowEq.cl (v_cl cPc _ _ _)) (.cons rfl (RowEq.cl (v_cl cPc _ _ _)) .nil)))) tmq) ?_
    refine ploop (fun q st => ∃ (at' : Int) (m k1 : Nat) (l1 : List (Int × Int)), 0 ≤ at' ∧ at' ≤ n ∧ q = m ∧ k1 + m = x + 1 ∧ l1.length = k1 ∧ Sml l1 ∧ st = ⟨[(0, .ptr 0 0 0), (3, .lsl 1 0 2), (4, vi ((1 : Nat) : Int)), (5, vi m)], [tapeRow n g at', rPs k0 k1, vRow cPr 2 k0 (lF (0, 0) l0), vRow cPr 2 k1 (lF (0, 0) l1)]⟩) (x + 1) ⟨at_, x + 1, 0, l1, b1, b2, rfl, by omega, hl1, hs1, rfl⟩ ?_
    clear hl1 hs1 b1 b2 l1
    rintro q _ ⟨at', m, k1, l1, b1, b2, hq, hkm, hl, hs, rfl⟩
    have hq := hq.symm
    subst hq
    repeat' (first | refine yo ?_ ?_ | refine yw ?_ ?_ | refine yk ?_ ?_ | exact trivial | with_reducible refine wA ?_ ?_ | refine ys ?_ ?_ | refine xs_done ?_ | refine yl ?_ ?_ | refine w8 ?_ | refine w9 ?_ | refine w1 ?_ | refine w2 ?_ | refine w3 ?_ | refine w4 ?_ | refine w5 ?_ | refine w6 ?_ | refine w7 ?_ | refine yo0 ?_ ?_ | refine yw0 ?_ ?_ | exact qq | fail)
    refine pcond rfl ?_ ?_ <;> intro hc <;> simp at hc
    · obtain ⟨m, rfl⟩ : ∃ m', m = m' + 1 := ⟨m - 1, by omega⟩
      have hw : IntKind.i64.wrap (((m + 1 : Nat) : Int) - 1) = (m : Int) := by rw [w64 (by omega) (by omega)]; omega
      rcases k1 with _ | k1
      all_goals
        repeat' (first | refine yo ?_ ?_ | refine yw ?_ ?_ | refine yk ?_ ?_ | exact trivial | with_reducible refine wA ?_ ?_ | refine ys ?_ ?_ | refine xs_done ?_ | refine yl ?_ ?_ | refine xs_start (id := 13) true [.take 0, .take 1, .take 6, .one 2, .take 3, .take 4, .take 5, .one 7, .take 8, .one 9] 0 rfl rfl (by kernel_rfl) ?_ | refine xs_startH (id := 8) [2] false [.take 0, .take 1, .take 2, .take 3, .take 7] 9 rfl (by kernel_rfl) ?_ | refine BrAll.cons ?_ ?_ | exact BrAll.nil | refine xs_brT (n := 14) [0, 1, 2, 3, 7] [(4, [], false, 8), (8, [], false, 8)] (by decide +kernel) rfl (by kernel_rfl) (by kernel_rfl) ?_ | refine xs_brT (n := 14) [0, 1, 2, 3, 7, 8] [(4, [], false, 7), (9, [.one 4, .one 5, .one 6, .one 10, .one 11, .one 12, .one 13], true, 0)] (by decide +kernel) rfl (by kernel_rfl) (by kernel_rfl) ?_ | refine xs_brT (n := 14) [0, 1, 2, 3, 4, 7, 8] [(5, [], false, 6), (9, [.one 5, .one 6, .one 10, .one 11, .one 12, .one 13], true, 0)] (by decide +kernel) rfl (by kernel_rfl) (by kernel_rfl) ?_ | refine xs_brT (n := 14) [0, 1, 2, 3, 4, 5, 7, 8] [(6, [.one 9, .one 10, .one 11, .one 12, .one 13], true, 0), (9, [.one 6, .one 10, .one 11, .one 12, .one 13], true, 0)] (by decide +kernel) rfl (by kernel_rfl) (by kernel_rfl) ?_ | refine xs_brT (n := 14) [0, 1, 2, 3, 4, 7] [(5, [], false, 7), (8, [], false, 7)] (by decide +kernel) rfl (by kernel_rfl) (by kernel_rfl) ?_ | refine xs_brT (n := 14) [0, 1, 2, 3, 4, 5, 7] [(6, [.one 8, .one 9, .one 10, .one 11, .one 12, .one 13], true, 0), (8, [], false, 6)] (by decide +kernel) rfl (by kernel_rfl) (by kernel_rfl) ?_ | refine ⟨_, [], true, rfl, rfl, stepOp_pst rfl ?_ ?_⟩ | exact ⟨Nat.le_refl _, (by rw [hk]; exact Nat.le_of_ble_eq_true rfl), Nat.le_of_eq (Nat.zero_add _), (show (_ : Nat) * 16 ≤ 140737488355328 from by omega), (show (_ : Nat) ≤ 9223372036854775807 from by omega)⟩ | (refine t1 small_t hn ?_; rintro at_ _ b1 b2 ⟨a, b, rfl, ha1, ha2, hb⟩) | (refine t2 small_t hn ?_; rintro at_ _ b1 b2 ⟨a, b, rfl, ha1, ha2, hb⟩) | (refine t3 small_t hn ?_; rintro at_ _ b1 b2 ⟨a, b, rfl, ha1, ha2, hb⟩) | refine w8 ?_ | refine w9 ?_ | refine w1 ?_ | refine w2 ?_ | refine w3 ?_ | refine w4 ?_ | refine w5 ?_ | refine w6 ?_ | refine w7 ?_ | refine yo0 ?_ ?_ | refine yw0 ?_ ?_ | exact qq | fail)
        all_goals
          refine xdone ?_
          rw [hw]
          first
            | exact kloop_next (st' := ⟨[(0, .ptr 0 0 0), (3, .lsl 1 0 2), (4, vi ((1 : Nat) : Int)), (5, vi (m : Int))], [tapeRow n g _, rPs k0 (0 + 1), vRow cPr 2 k0 (lF (0, 0) l0), vRow cPr 2 (0 + 1) (lF (0, 0) (l1 ++ [(a, b)]))]⟩) m (can_rowsv [0, 1, 2, 5] (k0_sel hk rfl) rfl (.cons rfl (RowEq.cl (tape_cl _ _ _)) (.cons rfl (ps_eq rfl rfl rfl (Nat.le_refl _) rfl rfl (peq_slP rfl) (PEq.refl _)) (.cons rfl (RowEq.cl (v_cl cPc _ _ _)) (.cons rfl (app_l0 cPc hl rfl) .nil)))) tmq) (by omega) ⟨_, m, 0 + 1, l1 ++ [(a, b)], by assumption, by assumption, rfl, by omega, by rw [List.length_append, hl]; rfl, hs.snoc ha1 ha2, rfl⟩
            | exact kloop_next (st' := ⟨[(0, .ptr 0 0 0), (3, .lsl 1 0 2), (4, vi ((1 : Nat) : Int)), (5, vi (m : Int))], [tapeRow n g _, rPs k0 (k1 + 1 + 1), vRow cPr 2 k0 (lF (0, 0) l0), vRow cPr 2 (k1 + 1 + 1) (lF (0, 0) (l1 ++ [(a, b)]))]⟩) m (can_rowsv [0, 1, 2, 5] (k0_sel hk rfl) rfl (.cons rfl (RowEq.cl (tape_cl _ _ _)) (.cons rfl (ps_eq rfl rfl rfl (Nat.le_refl _) rfl rfl (peq_slP rfl) (PEq.refl _)) (.cons rfl (RowEq.cl (v_cl cPc _ _ _)) (.cons rfl (app_l cPc hl rfl rfl) .nil)))) tmq) (by omega) ⟨_, m, k1 + 1 + 1, l1 ++ [(a, b)], by assumption, by assumption, rfl, by omega, by rw [List.length_append, hl]; rfl, hs.snoc ha1 ha2, rfl⟩
    · obtain rfl : m = 0 := by omega
      repeat' (first | refine yo ?_ ?_ | refine yw ?_ ?_ | refine yk ?_ ?_ | exact trivial | with_reducible refine wA ?_ ?_ | refine ys ?_ ?_ | refine xs_done ?_ | refine yl ?_ ?_ | refine w8 ?_ | refine w9 ?_ | refine w1 ?_ | refine w2 ?_ | refine w3 ?_ | refine w4 ?_ | refine w5 ?_ | refine w6 ?_ | refine w7 ?_ | refine yo0 ?_ ?_ | refine yw0 ?_ ?_ | exact qq | fail)
      refine xdone ?_
      exact kloop_next (st' := ⟨[(0, .ptr 0 0 0), (3, .lsl 1 0 2), (4, vi ((2 : Nat) : Int))], [tapeRow n g _, rPs k0 k1, vRow cPr 2 k0 (lF (0, 0) l0), vRow cPr 2 k1 (lF (0, 0) l1)]⟩) 0 (can_rowsv [0, 1, 2, 3] (k0_sel hk rfl) rfl (.cons rfl (RowEq.cl (tape_cl _ _ _)) (.cons rfl (ps_eq rfl rfl rfl (Nat.le_refl _) rfl rfl (peq_slP rfl) (peq_slP rfl)) (.cons rfl (RowEq.cl (v_cl cPc _ _ _)) (.cons rfl (RowEq.cl (v_cl cPc _ _ _)) .nil)))) tmq) (by omega) ⟨_, 2, k0, k1, l0, l1, by assumption, by assumption, rfl, .inr (.inr ⟨rfl, by omega, by omega⟩), by omega, by omega, hl0, hl, hs0, hs, rfl⟩
  · repeat' (first | refine yo ?_ ?_ | refine yw ?_ ?_ | refine yk ?_ ?_ | exact trivial | with_reducible refine wA ?_ ?_ | refine ys ?_ ?_ | refine xs_done ?_ | refine yl ?_ ?_ | (refine tn1 hn ?_; rintro at_ b1 b2 x hx1 hx2) | refine w8 ?_ | refine w9 ?_ | refine w1 ?_ | refine w2 ?_ | refine w3 ?_ | refine w4 ?_ | refine w5 ?_ | refine w6 ?_ | refine w7 ?_ | refine yo0 ?_ ?_ | refine yw0 ?_ ?_ | exact qq | fail)
    refine pcond rfl ?_ ?_ <;> intro hc <;> simp at hc
    · repeat' (first | refine yo ?_ ?_ | refine yw ?_ ?_ | refine yk ?_ ?_ | exact trivial | with_reducible refine wA ?_ ?_ | refine ys ?_ ?_ | refine xs_done ?_ | refine yl ?_ ?_ | (refine t1 next2_t hn ?_; rintro at_ _ b1 b2 ⟨y, rfl, (rfl | rfl)⟩) | (refine t2 next2_t hn ?_; rintro at_ _ b1 b2 ⟨y, rfl, (rfl | rfl)⟩) | (refine t3 next2_t hn ?_; rintro at_ _ b1 b2 ⟨y, rfl, (rfl | rfl)⟩) | refine w8 ?_ | refine w9 ?_ | refine w1 ?_ | refine w2 ?_ | refine w3 ?_ | refine w4 ?_ | refine w5 ?_ | refine w6 ?_ | refine w7 ?_ | refine yo0 ?_ ?_ | refine yw0 ?_ ?_ | exact qq | fail)
      · refine xdone ?_
        exact ktapL [1, 2, 3] rfl (by assumption) (by assumption) (by intro l hl; simp at hl; omega) rfl ⟨trivial, trivial⟩ (qs := [vPas [⟨n_gross, 0, fun _ => (0, 0)⟩, ⟨n_time, k1, lF (0, 0) l1⟩]]) ⟨argPas rfl (Nat.le_refl _) (by simp) rfl rfl argNil (arg_v cPc rfl (by simp)), trivial⟩ ⟨_, _, _, _, rfl, bdp_0 _ _, bdp_s _ hk1 hs1⟩
      · refine xdone ?_
        exact ktapL [1, 2, 3] rfl (by assumption) (by assumption) (by intro l hl; simp at hl; omega) rfl ⟨trivial, trivial⟩ (qs := [vPas [⟨n_gross, k0, lF (0, 0) l0⟩, ⟨n_time, 0, fun _ => (0, 0)⟩]]) ⟨argPas rfl (Nat.le_refl _) (by simp) rfl rfl (arg_v cPc rfl (by simp)) argNil, trivial⟩ ⟨_, _, _, _, rfl, bdp_s _ hk0 hs0, bdp_0 _ _⟩
    · repeat' (first | refine yo ?_ ?_ | refine yw ?_ ?_ | refine yk ?_ ?_ | exact trivial | with_reducible refine wA ?_ ?_ | refine ys ?_ ?_ | refine xs_done ?_ | refine yl ?_ ?_ | refine w8 ?_ | refine w9 ?_ | refine w1 ?_ | refine w2 ?_ | refine w3 ?_ | refine w4 ?_ | refine w5 ?_ | refine w6 ?_ | refine w7 ?_ | refine yo0 ?_ ?_ | refine yw0 ?_ ?_ | exact qq | fail)
      refine pcond rfl ?_ ?_ <;> intro hc2 <;> simp at hc2
      · rcases k0 with _ | k0
        · omega
        rcases k1 with _ | k1
        · omega
        repeat' (first | refine yo ?_ ?_ | refine yw ?_ ?_ | refine yk ?_ ?_ | exact trivial | with_reducible refine wA ?_ ?_ | refine ys ?_ ?_ | refine xs_done ?_ | refine yl ?_ ?_ | refine xs_start (id := 8) false [.take 0, .take 1, .take 2, .take 3, .take 4, .take 5, .take 7, .take 8] 6 rfl rfl (by kernel_rfl) ?_ | refine xs_start (id := 13) true [.take 0, .take 1, .take 6, .one 2, .take 3, .take 4, .take 5, .one 7, .take 8, .one 9] 0 rfl rfl (by kernel_rfl) ?_ | (refine t1 next2_t hn ?_; rintro at_ _ b1 b2 ⟨y, rfl, (rfl | rfl)⟩) | (refine t2 next2_t hn ?_; rintro at_ _ b1 b2 ⟨y, rfl, (rfl | rfl)⟩) | (refine t3 next2_t hn ?_; rintro at_ _ b1 b2 ⟨y, rfl, (rfl | rfl)⟩) | (refine t1 fraction_t hn ?_; rintro at_ _ b1 b2 ⟨u, v, rfl, hu, hv⟩) | (refine t2 fraction_t hn ?_; rintro at_ _ b1 b2 ⟨u, v, rfl, hu, hv⟩) | (refine t3 fraction_t hn ?_; rintro at_ _ b1 b2 ⟨u, v, rfl, hu, hv⟩) | refine w8 ?_ | refine w9 ?_ | refine w1 ?_ | refine w2 ?_ | refine w3 ?_ | refine w4 ?_ | refine w5 ?_ | refine w6 ?_ | refine w7 ?_ | refine yo0 ?_ ?_ | refine yw0 ?_ ?_ | exact qq | fail)
        · refine xdone ?_
          exact ktapL [1, 2, 3] rfl (by assumption) (by assumption) (by intro l hl; simp at hl; omega) rfl ⟨trivial, trivial⟩ (qs := [vPas [⟨n_gross, k0 + 1, set0 (u, v) (lF (0, 0) l0)⟩, ⟨n_time, k1 + 1, lF (0, 0) l1⟩]]) ⟨argPas rfl (Nat.le_refl _) (by simp) rfl rfl (argSl (k := k0 + 1) rfl (Nat.le_refl _) (by simp) fun a ha b hb => by rcases a with _ | a <;> rcases c2 hb with rfl | rfl <;> rfl) (arg_o (s := .own) (l := 3) cPc rfl trivial (List.Mem.tail _ (List.Mem.tail _ (List.Mem.head _)))), trivial⟩ ⟨_, _, _, _, rfl, bdp_1 _ hk0 hs0 hu hv, bdp_s _ hk1 hs1⟩
        · refine xdone ?_
          exact ktapL [1, 2, 3] rfl (by assumption) (by assumption) (by intro l hl; simp at hl; omega) rfl ⟨trivial, trivial⟩ (qs := [vPas [⟨n_gross, k0 + 1, lF (0, 0) l0⟩, ⟨n_time, k1 + 1, set0 (u, v) (lF (0, 0) l1)⟩]]) ⟨argPas rfl (Nat.le_refl _) (by simp) rfl rfl (arg_o (s := .own) (l := 2) cPc rfl trivial (List.Mem.tail _ (List.Mem.head _))) (argSl (k := k1 + 1) rfl (Nat.le_refl _) (by simp) fun a ha b hb => by rcases a with _ | a <;> rcases c2 hb with rfl | rfl <;> rfl), trivial⟩ ⟨_, _, _, _, rfl, bdp_s _ hk0 hs0, bdp_1 _ hk1 hs1 hu hv⟩
      · repeat' (first | refine yo ?_ ?_ | refine yw ?_ ?_ | refine yk ?_ ?_ | exact trivial | with_reducible refine wA ?_ ?_ | refine ys ?_ ?_ | refine xs_done ?_ | refine yl ?_ ?_ | refine w8 ?_ | refine w9 ?_ | refine w1 ?_ | refine w2 ?_ | refine w3 ?_ | refine w4 ?_ | refine w5 ?_ | refine w6 ?_ | refine w7 ?_ | refine yo0 ?_ ?_ | refine yw0 ?_ ?_ | exact qq | fail)
        refine xdone ?_
        exact ktapL [1, 2, 3] rfl (by assumption) (by assumption) (by intro l hl; simp at hl; omega) rfl ⟨trivial, trivial⟩ (qs := [vPas [⟨n_gross, k0, lF (0, 0) l0⟩, ⟨n_time, k1, lF (0, 0) l1⟩]]) ⟨argPas rfl (Nat.le_refl _) (by simp) rfl rfl (arg_v cPc rfl (by simp)) (arg_v cPc rfl (by simp)), trivial⟩ ⟨_, _, _, _, rfl, bdp_s _ hk0 hs0, bdp_s _ hk1 hs1⟩
end Go.Proofs.YtcghpepighboaaaDoor
