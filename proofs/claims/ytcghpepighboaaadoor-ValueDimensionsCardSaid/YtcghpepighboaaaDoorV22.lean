/- payrolllaw22: number, sane. -/
import Derived.Test.YtcghpepighboaaaDoorRef0
import Derived.Test.YtcghpepighboaaaDoorVal5
import Derived.Test.YtcghpepighboaaaDoorX11
set_option linter.unusedSimpArgs false
set_option linter.unusedVariables false
set_option maxRecDepth 100000
namespace Go.Proofs.YtcghpepighboaaaDoor
abbrev nmE (n : Int) : Ex := .mk 1 n 1 0 0 0 ⟨#[]⟩ 0 0 0 kn
theorem num22_c (n : Int) : PureC G.P 24 [vi n] (fun r => r = vX (nmE n)) := by
  refine pure_of (G := G.toPg) (fn := Tryd.f24) Tryd.func24 rfl rfl rfl ?_; intro Γ hk
  repeat' (first | refine yo ?_ ?_ | refine yw ?_ ?_ | refine yk ?_ ?_ | exact trivial | with_reducible refine wA ?_ ?_ | refine ys ?_ ?_ | refine xs_done ?_ | refine yl ?_ ?_ | refine w8 ?_ | refine w9 ?_ | refine w1 ?_ | refine w2 ?_ | refine w3 ?_ | refine w4 ?_ | refine w5 ?_ | refine w6 ?_ | refine w7 ?_ | refine yo0 ?_ ?_ | refine yw0 ?_ ?_ | exact qq | fail)
  refine xdone ?_
  exact kret [] rfl ⟨Nat.zero_lt_one, trivial⟩ (qs := [vX (nmE n)]) ⟨argEx argNil, trivial⟩ rfl
abbrev cLt : Ex := eOp 9 2 (k2 (nmE 1) (nmE 2))
abbrev bdE : Ex := eOp 8 2 (k2 (nmE 1) (nmE 0))
abbrev ifE : Ex := eOp 18 3 (k3 cLt (nmE 5) bdE)
theorem ev_if : evalS [] [] [] ifE = ((5, 1), 0) := by decide +kernel
theorem lk_a : lookS 2 (lF (0, 0, 0) [(1, 10, 1), (5, 20, 1)]) 9 2 = ((10, 1), 0) := by decide +kernel
theorem lk_b : lookS 2 (lF (0, 0, 0) [(1, 10, 1), (5, 20, 1)]) 0 1 = ((0, 0), 16) := by decide +kernel
theorem bd_if : Bd ifE := by
  have n : ∀ z : Int, -9223372036854775808 ≤ z ∧ z ≤ 9223372036854775807 → Bd (nmE z) := fun z h => .mk ⟨h.1, h.2, by decide⟩ fun i hi => absurd hi (Nat.not_lt_zero i)
  have t : ∀ (op : Int) (a b : Ex), Bd a → Bd b → Bd (eOp op 2 (k2 a b)) := fun op a b ha hb => .mk ⟨by decide, by decide, by decide⟩ fun i hi => by
    unfold k2; split
    · exact ha
    · exact hb
  refine .mk ⟨by decide, by decide, by decide⟩ fun i hi => ?_
  unfold k3
  split
  · exact t _ _ _ (n _ (by decide)) (n _ (by decide))
  split
  · exact n _ (by decide)
  · exact t _ _ _ (n _ (by decide)) (n _ (by decide))
abbrev n_x : ByteArray := ⟨#[120]⟩
theorem av_x : avgS [⟨n_x, 3, lF (0, 0) [(1, 1), (2, 1), (6, 1)]⟩] n_x 2 = ((3, 2), 0) := by decide +kernel
theorem rf_x : refL (exI 1 fun _ => 4) 5 2 = [3, 2] := by decide +kernel
theorem mn_x : meanS 0 (fun _ => (0, 0)) = ((0, 0), 16) := by decide +kernel
theorem ls_x : lastS' [] n_x 1 = ((0, 0), 16) := by decide +kernel
theorem argK3n {mem : List Row} {L : List Nat} {l : Nat} {a b c : Ex} {p q r : List PV} {op vn vd um uh ud : Int} {nm : ByteArray} {cnt mode : Int} (hr : rowAt mem l = some ⟨.own, false, 3, 10, fun x y => nthP (p ++ (q ++ r)) (x * 10 + y)⟩) (hp : p.length = 10) (hq : q.length = 10) (hL : l ∈ L)
    (h0 : ∀ y, y < 10 → ArgOk mem L (nthP p y) (nthP (cX a) y)) (h1 : ∀ y, y < 10 → ArgOk mem L (nthP q y) (nthP (cX b) y)) (h2 : ∀ y, y < 10 → ArgOk mem L (nthP r y) (nthP (cX c) y)) : ArgOk mem L (.lsl l 0 3) (.vsl 3 10 (Ex.mk op vn vd um uh ud nm cnt mode 3 (k3 a b c)).kc) :=
  argLsl' (r := ⟨.own, false, 3, 10, _⟩) hr trivial hL (by simp) fun x hx y hy => by
    have hy : y < 10 := hy
    show ArgOk mem L (nthP (p ++ (q ++ r)) ((0 + x) * 10 + y)) (nthP (cX (k3 a b c x)) y)
    have app : ∀ (u v : List PV) (z : Nat), u.length = 10 → (z < 10 → nthP (u ++ v) z = nthP u z) ∧ nthP (u ++ v) (10 + z) = nthP v z := by
      intro u v z hu
      match u, hu with
      | [u0, u1, u2, u3, u4, u5, u6, u7, u8, u9], _ => 
        refine ⟨fun hz => ?_, ?_⟩
        · rcases c10 hz with rfl | rfl | rfl | rfl | rfl | rfl | rfl | rfl | rfl | rfl <;> rfl
        · rw [Nat.add_comm]; rfl
    rcases (by omega : x = 0 ∨ x = 1 ∨ x = 2) with rfl | rfl | rfl
    · rw [show (0 + 0) * 10 + y = y by omega, (app p _ y hp).1 hy]; exact h0 y hy
    · rw [show (0 + 1) * 10 + y = 10 + y by omega, (app p _ y hp).2, (app q _ y hq).1 hy]; exact h1 y hy
    · rw [show (0 + 2) * 10 + y = 10 + (10 + y) by omega, (app p _ (10 + y) hp).2, (app q _ y hq).2]; exact h2 y hy
theorem argIf {mem : List Row} {l l1 l2 : Nat} (hr : rowAt mem l = some ⟨.own, false, 3, 10, fun x y => nthP ([vi 9, vi 0, vi 0, vi 0, vi 0, vi 0, vs ⟨#[]⟩, vi 0, vi 0, .lsl l1 0 2] ++ (cX (nmE 5) ++ [vi 8, vi 0, vi 0, vi 0, vi 0, vi 0, vs ⟨#[]⟩, vi 0, vi 0, .lsl l2 0 2])) (x * 10 + y)⟩)
    (h1 : rowAt mem l1 = some ⟨.own, false, 2, 10, fun x y => nthP (cX (nmE 1) ++ cX (nmE 2)) (x * 10 + y)⟩) (h2 : rowAt mem l2 = some ⟨.own, false, 2, 10, fun x y => nthP (cX (nmE 1) ++ cX (nmE 0)) (x * 10 + y)⟩) :
    ArgOk mem [l, l1, l2] (.agg 10 (nthP [vi 18, vi 0, vi 0, vi 0, vi 0, vi 0, vs ⟨#[]⟩, vi 0, vi 0, .lsl l 0 3])) (vX ifE) :=
  argEx (argK3n (a := cLt) (b := nmE 5) (c := bdE) hr rfl rfl (List.Mem.head _) (fun y hy => by
    rcases c10 hy with rfl | rfl | rfl | rfl | rfl | rfl | rfl | rfl | rfl | rfl
    all_goals first
      | exact argVal
      | exact argK2 h1 (List.Mem.tail _ (List.Mem.head _))) (fun y hy => argCl (clL_nth _ y ⟨trivial, trivial, trivial, trivial, trivial, trivial, trivial, trivial, trivial, trivial, trivial⟩)) (fun y hy => by
    rcases c10 hy with rfl | rfl | rfl | rfl | rfl | rfl | rfl | rfl | rfl | rfl
    all_goals first
      | exact argVal
      | exact argK2 h2 (List.Mem.tail _ (List.Mem.tail _ (List.Mem.head _)))))
theorem argEn2 {mem : List Row} {L : List Nat} {l : Nat} {a b c d e f : Int} (hr : rowAt mem l = some ⟨.own, false, 2, 3, fun x y => nthP [vi a, vi b, vi c, vi d, vi e, vi f] (x * 3 + y)⟩) (hL : l ∈ L) : ArgOk mem L (.lsl l 0 2) (.vsl 2 3 (tF cN3 (lF (0, 0, 0) [(a, b, c), (d, e, f)]))) :=
  argLsl (r := ⟨.own, false, 2, 3, _⟩) hr trivial hL (Nat.le_refl _) fun x hx y hy => ⟨by
    have hy : y < 3 := hy
    rcases (by omega : x = 0 ∨ x = 1) with rfl | rfl <;> rcases (by omega : y = 0 ∨ y = 1 ∨ y = 2) with rfl | rfl | rfl <;> rfl, tF_cl cN3_cl _ x y⟩
theorem argI1 {mem : List Row} {L : List Nat} {l : Nat} {a : Int} (hr : rowAt mem l = some ⟨.own, false, 1, 1, fun x y => nthP [vi a] (x * 1 + y)⟩) (hL : l ∈ L) : ArgOk mem L (.lsl l 0 1) (.vsl 1 1 (tI fun _ => a)) :=
  argLsl (r := ⟨.own, false, 1, 1, _⟩) hr trivial hL (Nat.le_refl _) fun x hx y hy => ⟨by
    obtain rfl : x = 0 := by omega
    have hy : y < 1 := hy
    obtain rfl : y = 0 := by omega
    rfl, trivial⟩
theorem argPa1 {mem : List Row} {l l1 : Nat} {nm : ByteArray} {a b c d e f : Int} (hr : rowAt mem l = some ⟨.own, false, 1, 2, fun x y => nthP [vs nm, .lsl l1 0 3] (x * 2 + y)⟩) (h1 : rowAt mem l1 = some ⟨.own, false, 3, 2, fun x y => nthP [vi a, vi b, vi c, vi d, vi e, vi f] (x * 2 + y)⟩) : ArgOk mem [l, l1] (.lsl l 0 1) (vPas [⟨nm, 3, lF (0, 0) [(a, b), (c, d), (e, f)]⟩]) :=
  argLsl' (r := ⟨.own, false, 1, 2, _⟩) hr trivial (List.Mem.head _) (Nat.le_refl _) fun x hx y hy => by
    obtain rfl : x = 0 := by omega
    have hy : y < 2 := hy
    rcases (by omega : y = 0 ∨ y = 1) with rfl | rfl
    · exact argVal
    · exact argLsl (r := ⟨.own, false, 3, 2, _⟩) h1 trivial (List.Mem.tail _ (List.Mem.head _)) (Nat.le_refl _) fun x hx y hy => ⟨by
        have hy : y < 2 := hy
        rcases (by omega : x = 0 ∨ x = 1 ∨ x = 2) with rfl | rfl | rfl <;> rcases (by omega : y = 0 ∨ y = 1) with rfl | rfl <;> rfl, clL_nth _ y ⟨trivial, trivial, trivial⟩⟩
set_option maxHeartbeats 4000000 in
theorem sane22_c : PureC G.P 15 [] (fun r => r = vb true) := by
  have n1 := num22_c 1
  have n2 := num22_c 2
  have n5 := num22_c 5
  have n0 := num22_c 0
  refine pure_of (G := G.toPg) (fn := Tryd.f15) Tryd.func15 rfl rfl rfl ?_; intro Γ hk
  repeat' (first | refine yo ?_ ?_ | refine yw ?_ ?_ | refine yk ?_ ?_ | exact trivial | with_reducible refine wA ?_ ?_ | refine ys ?_ ?_ | refine xs_done ?_ | refine yl ?_ ?_ | (refine pop_callc [] rfl rfl rfl rfl rfl rfl (fun _ h => by cases h) (n1) (args_cl _ rfl) ?_; rintro _ rfl) | (refine pop_callc [] rfl rfl rfl rfl rfl rfl (fun _ h => by cases h) (n2) (args_cl _ rfl) ?_; rintro _ rfl) | refine w8 ?_ | refine w9 ?_ | refine w1 ?_ | refine w2 ?_ | refine w3 ?_ | refine w4 ?_ | refine w5 ?_ | refine w6 ?_ | refine w7 ?_ | refine yo0 ?_ ?_ | refine yw0 ?_ ?_ | exact qq | fail)
  refine pcan (st' := ⟨[(1, .ptr 0 0 0)], [⟨.own, true, 1, 10, fun _ => nthP [vi 9, vi 0, vi 0, vi 0, vi 0, vi 0, vs ⟨#[]⟩, vi 0, vi 0, .lsl 1 0 2]⟩, ⟨.own, false, 2, 10, fun x y => nthP (cX (nmE 1) ++ cX (nmE 2)) (x * 10 + y)⟩]⟩) (can_rowsv [1, 0] (k0_sel hk rfl) rfl (.cons rfl ?_ (.cons rfl ?_ .nil)) tmq) ?_
  · exact ⟨rfl, rfl, Nat.le_refl _, fun i _ j hj => by
      have hj : j < 10 := hj
      rcases c10 hj with rfl | rfl | rfl | rfl | rfl | rfl | rfl | rfl | rfl | rfl <;> exact PEq.refl _⟩
  · exact ⟨rfl, rfl, Nat.le_refl _, fun i hi j hj => by
      have hj : j < 10 := hj
      have hi : i < 2 := hi
      rcases (by omega : i = 0 ∨ i = 1) with rfl | rfl <;> rcases c10 hj with rfl | rfl | rfl | rfl | rfl | rfl | rfl | rfl | rfl | rfl <;> exact PEq.refl _⟩
  refine pcut (fun st => st = ⟨[(2, .ptr 0 0 0), (3, vi 0)], [⟨.own, true, 1, 2, fun _ => nthP [vi 5, vi 1]⟩]⟩) ?_ ?_
  · have ev := valEval_c [] [] [] ⟨by decide, by decide, by decide, by simp, by simp, by simp⟩ ifE bd_if
    rw [ev_if] at ev
    (refine any_start [0,1] 15 rfl ?_); (first | refine aT 0 ?_ | refine aT2 0 ?_ | (refine aC 0 ?_ ?_; rotate_left)); (refine any_many [1, 12] (by kernel_rfl) (by decide) rfl ⟨?_, ?_, trivial⟩ <;> first | ((refine any_i 1 (ch := []) rfl rfl ( pst_rowsc [] rfl rfl rfl rfl rfl rfl .nil (pure_rows n5) (by exact ⟨PEq.refl _, trivial⟩) ?_)); (rintro r rows ⟨rfl, rfl⟩; refine ⟨_, _, rfl, trivial, rfl, ?_⟩); (refine any_many [2, 12] (by kernel_rfl) (by decide) rfl ⟨?_, ?_, trivial⟩ <;> first | ((refine any_i 2 (ch := []) rfl rfl ( pst_rowsc [] rfl rfl rfl rfl rfl rfl .nil (pure_rows n1) (by exact ⟨PEq.refl _, trivial⟩) ?_)); (rintro r rows ⟨rfl, rfl⟩; refine ⟨_, _, rfl, trivial, rfl, ?_⟩); (refine any_many [3, 12] (by kernel_rfl) (by decide) rfl ⟨?_, ?_, trivial⟩ <;> first | ((refine any_i 3 (ch := []) rfl rfl ( pst_rowsc [] rfl rfl rfl rfl rfl rfl .nil (pure_rows n0) (by exact ⟨PEq.refl _, trivial⟩) ?_)); (rintro r rows ⟨rfl, rfl⟩; refine ⟨_, _, rfl, trivial, rfl, ?_⟩); (refine any_many [4, 12] (by kernel_rfl) (by decide) rfl ⟨?_, ?_, trivial⟩ <;> first | ((refine any_i 4 (ch := []) rfl rfl (pst_make rfl rfl rfl rfl trivial ?_)); (first | refine aT2 5 ?_ | (refine aC2 5 ?_ ?_; rotate_left)); (refine any_many [6, 12] (by kernel_rfl) (by decide) rfl ⟨?_, ?_, trivial⟩ <;> first | ((refine any_i 6 (ch := []) rfl rfl (pst_make rfl rfl rfl rfl trivial ?_)); (first | refine aT2 7 ?_ | (refine aC2 7 ?_ ?_; rotate_left)); (refine any_many [8, 12] (by kernel_rfl) (by decide) rfl ⟨?_, ?_, trivial⟩ <;> first | ((refine any_i 8 (ch := []) rfl rfl (pst_call [_, _, _] rfl rfl rfl rfl rfl ev ⟨argIf rfl rfl rfl, argNil, argNil, argNil, trivial⟩ ?_)); (rintro _ rfl; refine ⟨scB_spec _ rfl, ?_⟩); (first | refine aT 9 ?_ | refine aT2 9 ?_ | (refine aC 9 ?_ ?_; rotate_left)); (first | refine aT 10 ?_ | refine aT2 10 ?_ | (refine aC 10 ?_ ?_; rotate_left)); (first | refine aT 11 ?_ | refine aT2 11 ?_ | (refine aC 11 ?_ ?_; rotate_left)); (refine aO 12 rfl (ch := [])  (pst_new rfl rfl rfl rfl trivial ?_)); (refine aO 13 rfl (ch := [_])  (pst_store rfl rfl rfl rfl Nat.zero_lt_one ?_)); (first | refine aT 14 ?_ | refine aT2 14 ?_ | (refine aC 14 ?_ ?_; rotate_left)); (refine any_done (by kernel_rfl) ?_)) | ((refine any_i 12 (ch := []) rfl rfl (pst_new rfl rfl rfl rfl trivial ?_)); (refine aO 8 rfl (ch := [])  (pst_call [_, _, _] rfl rfl rfl rfl rfl ev ⟨argIf rfl rfl rfl, argNil, argNil, argNil, trivial⟩ ?_)); (rintro _ rfl; refine ⟨scB_spec _ rfl, ?_⟩); (first | refine aT 9 ?_ | refine aT2 9 ?_ | (refine aC 9 ?_ ?_; rotate_left)); (first | refine aT 10 ?_ | refine aT2 10 ?_ | (refine aC 10 ?_ ?_; rotate_left)); (first | refine aT 11 ?_ | refine aT2 11 ?_ | (refine aC 11 ?_ ?_; rotate_left)); (refine aO 13 rfl (ch := [_])  (pst_store rfl rfl rfl rfl Nat.zero_lt_one ?_)); (first | refine aT 14 ?_ | refine aT2 14 ?_ | (refine aC 14 ?_ ?_; rotate_left)); (refine any_done (by kernel_rfl) ?_)))) | ((refine any_i 12 (ch := []) rfl rfl (pst_new rfl rfl rfl rfl trivial ?_)); (refine aO 6 rfl (ch := [])  (pst_make rfl rfl rfl rfl trivial ?_)); (first | refine aT2 7 ?_ | (refine aC2 7 ?_ ?_; rotate_left)); (refine aO 8 rfl (ch := [])  (pst_call [_, _, _] rfl rfl rfl rfl rfl ev ⟨argIf rfl rfl rfl, argNil, argNil, argNil, trivial⟩ ?_)); (rintro _ rfl; refine ⟨scB_spec _ rfl, ?_⟩); (first | refine aT 9 ?_ | refine aT2 9 ?_ | (refine aC 9 ?_ ?_; rotate_left)); (first | refine aT 10 ?_ | refine aT2 10 ?_ | (refine aC 10 ?_ ?_; rotate_left)); (first | refine aT 11 ?_ | refine aT2 11 ?_ | (refine aC 11 ?_ ?_; rotate_left)); (refine aO 13 rfl (ch := [_])  (pst_store rfl rfl rfl rfl Nat.zero_lt_one ?_)); (first | refine aT 14 ?_ | refine aT2 14 ?_ | (refine aC 14 ?_ ?_; rotate_left)); (refine any_done (by kernel_rfl) ?_)))) | ((refine any_i 12 (ch := []) rfl rfl (pst_new rfl rfl rfl rfl trivial ?_)); (refine aO 4 rfl (ch := [])  (pst_make rfl rfl rfl rfl trivial ?_)); (first | refine aT2 5 ?_ | (refine aC2 5 ?_ ?_; rotate_left)); (refine aO 6 rfl (ch := [])  (pst_make rfl rfl rfl rfl trivial ?_)); (first | refine aT2 7 ?_ | (refine aC2 7 ?_ ?_; rotate_left)); (refine aO 8 rfl (ch := [])  (pst_call [_, _, _] rfl rfl rfl rfl rfl ev ⟨argIf rfl rfl rfl, argNil, argNil, argNil, trivial⟩ ?_)); (rintro _ rfl; refine ⟨scB_spec _ rfl, ?_⟩); (first | refine aT 9 ?_ | refine aT2 9 ?_ | (refine aC 9 ?_ ?_; rotate_left)); (first | refine aT 10 ?_ | refine aT2 10 ?_ | (refine aC 10 ?_ ?_; rotate_left)); (first | refine aT 11 ?_ | refine aT2 11 ?_ | (refine aC 11 ?_ ?_; rotate_left)); (refine aO 13 rfl (ch := [_])  (pst_store rfl rfl rfl rfl Nat.zero_lt_one ?_)); (first | refine aT 14 ?_ | refine aT2 14 ?_ | (refine aC 14 ?_ ?_; rotate_left)); (refine any_done (by kernel_rfl) ?_)))) | ((refine any_i 12 (ch := []) rfl rfl (pst_new rfl rfl rfl rfl trivial ?_)); (refine aO 3 rfl (ch := [])  ( pst_rowsc [] rfl rfl rfl rfl rfl rfl .nil (pure_rows n0) (by exact ⟨PEq.refl _, trivial⟩) ?_)); (rintro r rows ⟨rfl, rfl⟩; refine ⟨_, _, rfl, trivial, rfl, ?_⟩); (refine aO 4 rfl (ch := [])  (pst_make rfl rfl rfl rfl trivial ?_)); (first | refine aT2 5 ?_ | (refine aC2 5 ?_ ?_; rotate_left)); (refine aO 6 rfl (ch := [])  (pst_make rfl rfl rfl rfl trivial ?_)); (first | refine aT2 7 ?_ | (refine aC2 7 ?_ ?_; rotate_left)); (refine aO 8 rfl (ch := [])  (pst_call [_, _, _] rfl rfl rfl rfl rfl ev ⟨argIf rfl rfl rfl, argNil, argNil, argNil, trivial⟩ ?_)); (rintro _ rfl; refine ⟨scB_spec _ rfl, ?_⟩); (first | refine aT 9 ?_ | refine aT2 9 ?_ | (refine aC 9 ?_ ?_; rotate_left)); (first | refine aT 10 ?_ | refine aT2 10 ?_ | (refine aC 10 ?_ ?_; rotate_left)); (first | refine aT 11 ?_ | refine aT2 11 ?_ | (refine aC 11 ?_ ?_; rotate_left)); (refine aO 13 rfl (ch := [_])  (pst_store rfl rfl rfl rfl Nat.zero_lt_one ?_)); (first | refine aT 14 ?_ | refine aT2 14 ?_ | (refine aC 14 ?_ ?_; rotate_left)); (refine any_done (by kernel_rfl) ?_)))) | ((refine any_i 12 (ch := []) rfl rfl (pst_new rfl rfl rfl rfl trivial ?_)); (refine aO 2 rfl (ch := [])  ( pst_rowsc [] rfl rfl rfl rfl rfl rfl .nil (pure_rows n1) (by exact ⟨PEq.refl _, trivial⟩) ?_)); (rintro r rows ⟨rfl, rfl⟩; refine ⟨_, _, rfl, trivial, rfl, ?_⟩); (refine aO 3 rfl (ch := [])  ( pst_rowsc [] rfl rfl rfl rfl rfl rfl .nil (pure_rows n0) (by exact ⟨PEq.refl _, trivial⟩) ?_)); (rintro r rows ⟨rfl, rfl⟩; refine ⟨_, _, rfl, trivial, rfl, ?_⟩); (refine aO 4 rfl (ch := [])  (pst_make rfl rfl rfl rfl trivial ?_)); (first | refine aT2 5 ?_ | (refine aC2 5 ?_ ?_; rotate_left)); (refine aO 6 rfl (ch := [])  (pst_make rfl rfl rfl rfl trivial ?_)); (first | refine aT2 7 ?_ | (refine aC2 7 ?_ ?_; rotate_left)); (refine aO 8 rfl (ch := [])  (pst_call [_, _, _] rfl rfl rfl rfl rfl ev ⟨argIf rfl rfl rfl, argNil, argNil, argNil, trivial⟩ ?_)); (rintro _ rfl; refine ⟨scB_spec _ rfl, ?_⟩); (first | refine aT 9 ?_ | refine aT2 9 ?_ | (refine aC 9 ?_ ?_; rotate_left)); (first | refine aT 10 ?_ | refine aT2 10 ?_ | (refine aC 10 ?_ ?_; rotate_left)); (first | refine aT 11 ?_ | refine aT2 11 ?_ | (refine aC 11 ?_ ?_; rotate_left)); (refine aO 13 rfl (ch := [_])  (pst_store rfl rfl rfl rfl Nat.zero_lt_one ?_)); (first | refine aT 14 ?_ | refine aT2 14 ?_ | (refine aC 14 ?_ ?_; rotate_left)); (refine any_done (by kernel_rfl) ?_)))) | ((refine any_i 12 (ch := []) rfl rfl (pst_new rfl rfl rfl rfl trivial ?_)); (refine aO 1 rfl (ch := [])  ( pst_rowsc [] rfl rfl rfl rfl rfl rfl .nil (pure_rows n5) (by exact ⟨PEq.refl _, trivial⟩) ?_)); (rintro r rows ⟨rfl, rfl⟩; refine ⟨_, _, rfl, trivial, rfl, ?_⟩); (refine aO 2 rfl (ch := [])  ( pst_rowsc [] rfl rfl rfl rfl rfl rfl .nil (pure_rows n1) (by exact ⟨PEq.refl _, trivial⟩) ?_)); (rintro r rows ⟨rfl, rfl⟩; refine ⟨_, _, rfl, trivial, rfl, ?_⟩); (refine aO 3 rfl (ch := [])  ( pst_rowsc [] rfl rfl rfl rfl rfl rfl .nil (pure_rows n0) (by exact ⟨PEq.refl _, trivial⟩) ?_)); (rintro r rows ⟨rfl, rfl⟩; refine ⟨_, _, rfl, trivial, rfl, ?_⟩); (refine aO 4 rfl (ch := [])  (pst_make rfl rfl rfl rfl trivial ?_)); (first | refine aT2 5 ?_ | (refine aC2 5 ?_ ?_; rotate_left)); (refine aO 6 rfl (ch := [])  (pst_make rfl rfl rfl rfl trivial ?_)); (first | refine aT2 7 ?_ | (refine aC2 7 ?_ ?_; rotate_left)); (refine aO 8 rfl (ch := [])  (pst_call [_, _, _] rfl rfl rfl rfl rfl ev ⟨argIf rfl rfl rfl, argNil, argNil, argNil, trivial⟩ ?_)); (rintro _ rfl; refine ⟨scB_spec _ rfl, ?_⟩); (first | refine aT 9 ?_ | refine aT2 9 ?_ | (refine aC 9 ?_ ?_; rotate_left)); (first | refine aT 10 ?_ | refine aT2 10 ?_ | (refine aC 10 ?_ ?_; rotate_left)); (first | refine aT 11 ?_ | refine aT2 11 ?_ | (refine aC 11 ?_ ?_; rotate_left)); (refine aO 13 rfl (ch := [_])  (pst_store rfl rfl rfl rfl Nat.zero_lt_one ?_)); (first | refine aT 14 ?_ | refine aT2 14 ?_ | (refine aC 14 ?_ ?_; rotate_left)); (refine any_done (by kernel_rfl) ?_)))
    all_goals first
      | exact kcut (can_rowsv [2] (k0_sel hk rfl) rfl (.cons rfl rqq .nil) tmq) rfl
      | exact kcut (can_rowsv [3] (k0_sel hk rfl) rfl (.cons rfl rqq .nil) tmq) rfl
      | exact kcut (can_rowsv [4] (k0_sel hk rfl) rfl (.cons rfl rqq .nil) tmq) rfl
      | exact kcut (can_rowsv [5] (k0_sel hk rfl) rfl (.cons rfl rqq .nil) tmq) rfl
  rintro _ rfl
  have la := lookup_c 2 (lF (0, 0, 0) [(1, 10, 1), (5, 20, 1)]) 9 2 (by decide) (by decide +kernel) (by decide)
  rw [lk_a] at la
  have lb := lookup_c 2 (lF (0, 0, 0) [(1, 10, 1), (5, 20, 1)]) 0 1 (by decide) (by decide +kernel) (by decide)
  rw [lk_b] at lb
  repeat' (first | refine yo ?_ ?_ | refine yw ?_ ?_ | refine yk ?_ ?_ | exact trivial | with_reducible refine wA ?_ ?_ | refine ys ?_ ?_ | refine xs_done ?_ | refine yl ?_ ?_ | refine w8 ?_ | refine w9 ?_ | refine w1 ?_ | refine w2 ?_ | refine w3 ?_ | refine w4 ?_ | refine w5 ?_ | refine w6 ?_ | refine w7 ?_ | refine yo0 ?_ ?_ | refine yw0 ?_ ?_ | exact qq | fail)
  refine pop_call [1] rfl rfl rfl rfl rfl la ⟨argEn2 rfl (List.Mem.head _), argCl (clA ⟨trivial, trivial, trivial⟩), trivial⟩ ?_
  rintro _ rfl
  refine ⟨scB_spec _ rfl, ?_⟩
  repeat' (first | refine yo ?_ ?_ | refine yw ?_ ?_ | refine yk ?_ ?_ | exact trivial | with_reducible refine wA ?_ ?_ | refine ys ?_ ?_ | refine xs_done ?_ | refine yl ?_ ?_ | refine w8 ?_ | refine w9 ?_ | refine w1 ?_ | refine w2 ?_ | refine w3 ?_ | refine w4 ?_ | refine w5 ?_ | refine w6 ?_ | refine w7 ?_ | refine yo0 ?_ ?_ | refine yw0 ?_ ?_ | exact qq | fail)
  refine pop_call [1] rfl rfl rfl rfl rfl lb ⟨argEn2 rfl (List.Mem.head _), argCl (clA ⟨trivial, trivial, trivial⟩), trivial⟩ ?_
  rintro _ rfl
  refine ⟨scB_spec _ rfl, ?_⟩
  have av := average_c [⟨n_x, 3, lF (0, 0) [(1, 1), (2, 1), (6, 1)]⟩] n_x 2 (by decide) (by
    intro p hp
    simp only [List.mem_cons, List.not_mem_nil, or_false] at hp
    subst hp
    refine ⟨by decide, ?_⟩
    decide +kernel)
  rw [av_x] at av
  have rf := ref_ok 0 0 5 2 1 (fun _ => 4) _ _ (span0_c 5 (by decide) (by decide)) (by decide) (by decide) (by decide) (by decide) (by decide)
  have mn := mean_c 0 (fun _ => (0, 0)) (by decide) (fun i hi => absurd hi (Nat.not_lt_zero i))
  have ls := last_c' [] n_x 1 (by decide) (by simp)
  rw [show refL (exI 1 fun _ => 4) (5 : Int).toNat (2 : Int).toNat = [3, 2] from rf_x] at rf
  rw [mn_x] at mn
  rw [ls_x] at ls
  repeat' (first | refine yo ?_ ?_ | refine yw ?_ ?_ | refine yk ?_ ?_ | exact trivial | with_reducible refine wA ?_ ?_ | refine ys ?_ ?_ | refine xs_done ?_ | refine yl ?_ ?_ | refine w8 ?_ | refine w9 ?_ | refine w1 ?_ | refine w2 ?_ | refine w3 ?_ | refine w4 ?_ | refine w5 ?_ | refine w6 ?_ | refine w7 ?_ | refine yo0 ?_ ?_ | refine yw0 ?_ ?_ | exact qq | fail)
  refine pop_call [5, 4] rfl rfl rfl rfl rfl av ⟨argPa1 rfl rfl, argVal, argVal, trivial⟩ ?_
  rintro _ rfl
  refine ⟨scB_spec _ rfl, ?_⟩
  repeat' (first | refine yo ?_ ?_ | refine yw ?_ ?_ | refine yk ?_ ?_ | exact trivial | with_reducible refine wA ?_ ?_ | refine ys ?_ ?_ | refine xs_done ?_ | refine yl ?_ ?_ | refine w8 ?_ | refine w9 ?_ | refine w1 ?_ | refine w2 ?_ | refine w3 ?_ | refine w4 ?_ | refine w5 ?_ | refine w6 ?_ | refine w7 ?_ | refine yo0 ?_ ?_ | refine yw0 ?_ ?_ | exact qq | fail)
  refine pop_callc [7] rfl rfl rfl rfl rfl rfl (fun l' _ => by rw [hk]; exact Nat.zero_le _) rf ⟨argCl (clA ⟨trivial, trivial, trivial⟩), argVal, argVal, argI1 rfl (List.Mem.head _), trivial⟩ ?_
  rintro _ rfl
  repeat' (first | refine yo ?_ ?_ | refine yw ?_ ?_ | refine yk ?_ ?_ | exact trivial | with_reducible refine wA ?_ ?_ | refine ys ?_ ?_ | refine xs_done ?_ | refine yl ?_ ?_ | refine w8 ?_ | refine w9 ?_ | refine w1 ?_ | refine w2 ?_ | refine w3 ?_ | refine w4 ?_ | refine w5 ?_ | refine w6 ?_ | refine w7 ?_ | refine yo0 ?_ ?_ | refine yw0 ?_ ?_ | exact qq | fail)
  refine pop_call [] rfl rfl rfl rfl rfl mn ⟨argNil, trivial⟩ ?_
  rintro _ rfl
  refine ⟨scB_spec _ rfl, ?_⟩
  repeat' (first | refine yo ?_ ?_ | refine yw ?_ ?_ | refine yk ?_ ?_ | exact trivial | with_reducible refine wA ?_ ?_ | refine ys ?_ ?_ | refine xs_done ?_ | refine yl ?_ ?_ | refine w8 ?_ | refine w9 ?_ | refine w1 ?_ | refine w2 ?_ | refine w3 ?_ | refine w4 ?_ | refine w5 ?_ | refine w6 ?_ | refine w7 ?_ | refine yo0 ?_ ?_ | refine yw0 ?_ ?_ | exact qq | fail)
  refine pop_call [] rfl rfl rfl rfl rfl ls ⟨argNil, argVal, argVal, trivial⟩ ?_
  rintro _ rfl
  refine ⟨scB_spec _ rfl, ?_⟩
  repeat' (first | refine yo ?_ ?_ | refine yw ?_ ?_ | refine yk ?_ ?_ | exact trivial | with_reducible refine wA ?_ ?_ | refine ys ?_ ?_ | refine xs_done ?_ | refine yl ?_ ?_ | refine w8 ?_ | refine w9 ?_ | refine w1 ?_ | refine w2 ?_ | refine w3 ?_ | refine w4 ?_ | refine w5 ?_ | refine w6 ?_ | refine w7 ?_ | refine yo0 ?_ ?_ | refine yw0 ?_ ?_ | exact qq | fail)
  · exact fun h => ⟨h, (show (0 : Nat) < 2 from by decide)⟩
  · exact fun h => ⟨h, Int.le_refl 0, (show (0 : Int) < (2 : Nat) from by decide)⟩
  refine kretv rfl ⟨trivial, trivial⟩ rfl rfl
end Go.Proofs.YtcghpepighboaaaDoor
