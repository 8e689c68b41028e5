/- The chapter's example: check.Check and check.Names on an agreement of three definitions. -/
import Derived.Test.YtnlcenlamkfmnaaGreatX8
import Derived.Test.YtnlcenlamkfmnaaGreatX21b
import Derived.Test.YtnlcenlamkfmnaaGreatX10
import Derived.Test.YtnlcenlamkfmnaaGreatX22
import Derived.Test.YtnlcenlamkfmnaaGreatPvLib2
set_option linter.unusedSimpArgs false
set_option linter.unusedVariables false
set_option maxRecDepth 100000
namespace Go.Proofs.YtnlcenlamkfmnaaGreat
theorem ocan2 {G : Pg} {N : Nat} {Γ : Fr} {st st' : PSt} {K : Exit → PSt → Prop} {ops : Array Oper} {l : List Oper} (hc : Can N Γ st st') (h : POps G N Γ ops l st' K) : POps G N Γ ops l st K := .mk fun ρ I a w hr => by
  obtain ⟨ρ', I', h1⟩ := hc ρ I a w hr
  exact h.go ρ' I' a w h1
abbrev capD (n : Nat) (r : Nat → Int) : PV := .vptr 1 1 (fun _ _ => .vsl n 1 (tI r)) 0 0
theorem argLslX {mem : List Row} {L : List Nat} {l n n' sz : Nat} {s : RS} {one : Bool} {f g : Nat → Nat → PV} (hr : rowAt mem l = some ⟨s, one, n', sz, g⟩) (hs : s.live) (hL : l ∈ L) (hn : n ≤ n') (hc : ∀ a, a < n → ∀ b, b < sz → g a b = f a b ∧ Cl (f a b)) : ArgOk mem L (.lsl l 0 n) (.vsl n sz f) :=
  argLsl (r := ⟨s, one, n', sz, g⟩) hr hs hL (by simpa using hn) fun a ha b hb => by rw [Nat.zero_add]; exact hc a ha b hb
abbrev n_m : ByteArray := ⟨#[109]⟩
abbrev n_p : ByteArray := ⟨#[112]⟩
abbrev e3 : Ex := .mk 3 0 0 0 0 0 n_h 0 0 0 kn
abbrev dP3 : Df := ⟨4, n_p, t0, 0, 0, fun _ => (0, 0, 0), e3, 0, 1, 1⟩
def m3 : List Df := [dI 1 n_h t0, dP3, dI 1 n_h t0]
theorem m3_bd : ∀ d, d ∈ m3 → BdD d := by
  have hI : BdD (dI 1 n_h t0) := ⟨by decide, fun i hi => absurd hi (Nat.not_lt_zero i), Nat.zero_le _, .nil, by show (-9223372036854775808 : Int) ≤ 0; decide, by show (0 : Int) ≤ 9223372036854775807; decide⟩
  intro d hd
  simp only [m3, List.mem_cons, List.not_mem_nil, or_false] at hd
  rcases hd with rfl | rfl | rfl
  · exact hI
  · exact ⟨by decide, fun i hi => absurd hi (Nat.not_lt_zero i), Nat.zero_le _, .mk ⟨by decide, by decide, by decide⟩ (fun i hi => absurd hi (Nat.not_lt_zero i)), by show (-9223372036854775808 : Int) ≤ 1; decide, by show (1 : Int) ≤ 9223372036854775807; decide⟩
  · exact hI
theorem chk_m3 : chkL n_m m3 = ([(1, 10), (2, 8)], 0) := by decide +kernel
theorem check3_c : PureC G.P 21 [vA n_m m3] (fun r => r = .tup 2 (nthP [vPr [(1, 10), (2, 8)], vi 0])) := (check_c n_m m3 (by decide) m3_bd).mono (by rintro r rfl; rw [chk_m3])
theorem clone0E_c (f : Nat → Nat → PV) : PureC G.P 37 [.vsl 0 3 f] (fun r => r = .vsl 0 3 f) := by
  refine pure_of (G := G.toPg) (fn := Tryz.f37) Tryz.func37 rfl rfl rfl ?_; intro Γ hk
  repeat' (first | refine yo ?_ ?_ | refine yw ?_ ?_ | refine yk ?_ ?_ | exact trivial | with_reducible refine wA ?_ ?_ | refine ys ?_ ?_ | refine xs_done ?_ | refine yl ?_ ?_ | refine w8 ?_ | refine w9 ?_ | refine w1 ?_ | refine w2 ?_ | refine w3 ?_ | refine w4 ?_ | refine w5 ?_ | refine w6 ?_ | refine w7 ?_ | refine yo0 ?_ ?_ | refine yw0 ?_ ?_ | exact qq | fail)
  refine pop_nileq (n := 0) rfl rfl rfl rfl rfl rfl (fun c => .inr rfl) ?_
  intro b hb
  repeat' (first | refine yo ?_ ?_ | refine yw ?_ ?_ | refine yk ?_ ?_ | exact trivial | with_reducible refine wA ?_ ?_ | refine ys ?_ ?_ | refine xs_done ?_ | refine yl ?_ ?_ | refine w8 ?_ | refine w9 ?_ | refine w1 ?_ | refine w2 ?_ | refine w3 ?_ | refine w4 ?_ | refine w5 ?_ | refine w6 ?_ | refine w7 ?_ | refine yo0 ?_ ?_ | refine yw0 ?_ ?_ | exact qq | fail)
  refine pcond rfl ?_ ?_ <;> intro hc
  · repeat' (first | refine yo ?_ ?_ | refine yw ?_ ?_ | refine yk ?_ ?_ | exact trivial | with_reducible refine wA ?_ ?_ | refine ys ?_ ?_ | refine xs_done ?_ | refine yl ?_ ?_ | refine w8 ?_ | refine w9 ?_ | refine w1 ?_ | refine w2 ?_ | refine w3 ?_ | refine w4 ?_ | refine w5 ?_ | refine w6 ?_ | refine w7 ?_ | refine yo0 ?_ ?_ | refine yw0 ?_ ?_ | exact qq | fail)
    refine xdone ?_
    exact kret [] rfl ⟨trivial, trivial⟩ (qs := [.vsl 0 3 f]) ⟨argNil, trivial⟩ rfl
  · repeat' (first | refine yo ?_ ?_ | refine yw ?_ ?_ | refine yk ?_ ?_ | exact trivial | with_reducible refine wA ?_ ?_ | refine ys ?_ ?_ | refine xs_done ?_ | refine yl ?_ ?_ | exact ⟨trivial, (by rw [hk]; exact Nat.zero_le _), Nat.le_refl _, Nat.le_of_ble_eq_true rfl, Nat.le_of_ble_eq_true rfl⟩ | refine w8 ?_ | refine w9 ?_ | refine w1 ?_ | refine w2 ?_ | refine w3 ?_ | refine w4 ?_ | refine w5 ?_ | refine w6 ?_ | refine w7 ?_ | refine yo0 ?_ ?_ | refine yw0 ?_ ?_ | exact qq | fail)
    refine xdone ?_
    exact kret [] rfl ⟨trivial, trivial⟩ (qs := [.vsl 0 3 f]) ⟨argLsl0, trivial⟩ rfl
theorem clone0X_c (f : Nat → Nat → PV) : PureC G.P 53 [.vsl 0 10 f] (fun r => r = .vsl 0 10 f) := by
  refine pure_of (G := G.toPg) (fn := Tryz.f53) Tryz.func53 rfl rfl rfl ?_; intro Γ hk
  repeat' (first | refine yo ?_ ?_ | refine yw ?_ ?_ | refine yk ?_ ?_ | exact trivial | with_reducible refine wA ?_ ?_ | refine ys ?_ ?_ | refine xs_done ?_ | refine yl ?_ ?_ | refine w8 ?_ | refine w9 ?_ | refine w1 ?_ | refine w2 ?_ | refine w3 ?_ | refine w4 ?_ | refine w5 ?_ | refine w6 ?_ | refine w7 ?_ | refine yo0 ?_ ?_ | refine yw0 ?_ ?_ | exact qq | fail)
  refine pop_nileq (n := 0) rfl rfl rfl rfl rfl rfl (fun c => .inr rfl) ?_
  intro b hb
  repeat' (first | refine yo ?_ ?_ | refine yw ?_ ?_ | refine yk ?_ ?_ | exact trivial | with_reducible refine wA ?_ ?_ | refine ys ?_ ?_ | refine xs_done ?_ | refine yl ?_ ?_ | refine w8 ?_ | refine w9 ?_ | refine w1 ?_ | refine w2 ?_ | refine w3 ?_ | refine w4 ?_ | refine w5 ?_ | refine w6 ?_ | refine w7 ?_ | refine yo0 ?_ ?_ | refine yw0 ?_ ?_ | exact qq | fail)
  refine pcond rfl ?_ ?_ <;> intro hc
  · repeat' (first | refine yo ?_ ?_ | refine yw ?_ ?_ | refine yk ?_ ?_ | exact trivial | with_reducible refine wA ?_ ?_ | refine ys ?_ ?_ | refine xs_done ?_ | refine yl ?_ ?_ | refine w8 ?_ | refine w9 ?_ | refine w1 ?_ | refine w2 ?_ | refine w3 ?_ | refine w4 ?_ | refine w5 ?_ | refine w6 ?_ | refine w7 ?_ | refine yo0 ?_ ?_ | refine yw0 ?_ ?_ | exact qq | fail)
    refine xdone ?_
    exact kret [] rfl ⟨trivial, trivial⟩ (qs := [.vsl 0 10 f]) ⟨argNil, trivial⟩ rfl
  · repeat' (first | refine yo ?_ ?_ | refine yw ?_ ?_ | refine yk ?_ ?_ | exact trivial | with_reducible refine wA ?_ ?_ | refine ys ?_ ?_ | refine xs_done ?_ | refine yl ?_ ?_ | exact ⟨trivial, (by rw [hk]; exact Nat.zero_le _), Nat.le_refl _, Nat.le_of_ble_eq_true rfl, Nat.le_of_ble_eq_true rfl⟩ | refine w8 ?_ | refine w9 ?_ | refine w1 ?_ | refine w2 ?_ | refine w3 ?_ | refine w4 ?_ | refine w5 ?_ | refine w6 ?_ | refine w7 ?_ | refine yo0 ?_ ?_ | refine yw0 ?_ ?_ | exact qq | fail)
    refine xdone ?_
    exact kret [] rfl ⟨trivial, trivial⟩ (qs := [.vsl 0 10 f]) ⟨argLsl0, trivial⟩ rfl
theorem copy0_c (op vn vd um uh ud : Int) (nm : ByteArray) (cnt mode : Int) (f : Nat → Nat → PV) : PureC G.P 38 [.agg 10 (nthP [vi op, vi vn, vi vd, vi um, vi uh, vi ud, vs nm, vi cnt, vi mode, .vsl 0 10 f])] (fun r => r = .agg 10 (nthP [vi op, vi vn, vi vd, vi um, vi uh, vi ud, vs nm, vi cnt, vi mode, .vsl 0 10 f])) := by
  refine pure_of (G := G.toPg) (fn := Tryz.f38) Tryz.func38 rfl rfl rfl ?_; intro Γ hk
  repeat' (first | refine yo ?_ ?_ | refine yw ?_ ?_ | refine yk ?_ ?_ | exact trivial | with_reducible refine wA ?_ ?_ | refine ys ?_ ?_ | refine xs_done ?_ | refine yl ?_ ?_ | (refine pop_callc [] rfl rfl rfl rfl rfl rfl (fun _ h => by cases h) (clone0X_c f) (args_cl _ rfl) ?_; rintro _ rfl) | refine w8 ?_ | refine w9 ?_ | refine w1 ?_ | refine w2 ?_ | refine w3 ?_ | refine w4 ?_ | refine w5 ?_ | refine w6 ?_ | refine w7 ?_ | refine yo0 ?_ ?_ | refine yw0 ?_ ?_ | exact qq | fail)
  refine ploopN 1 ?_
  repeat' (first | refine yo ?_ ?_ | refine yw ?_ ?_ | refine yk ?_ ?_ | exact trivial | with_reducible refine wA ?_ ?_ | refine ys ?_ ?_ | refine xs_done ?_ | refine yl ?_ ?_ | refine w8 ?_ | refine w9 ?_ | refine w1 ?_ | refine w2 ?_ | refine w3 ?_ | refine w4 ?_ | refine w5 ?_ | refine w6 ?_ | refine w7 ?_ | refine yo0 ?_ ?_ | refine yw0 ?_ ?_ | exact qq | fail)
  refine xdone ?_
  exact kret [] rfl ⟨Nat.zero_lt_one, trivial⟩ (qs := [.agg 10 (nthP [vi op, vi vn, vi vd, vi um, vi uh, vi ud, vs nm, vi cnt, vi mode, .vsl 0 10 f])]) ⟨argCl (fun i hi => clL_nth _ i ⟨trivial, trivial, trivial, trivial, trivial, trivial, trivial, trivial, trivial, trivial, trivial⟩), trivial⟩ rfl
set_option maxHeartbeats 4000000 in
theorem divide3_r : RowsC G.P 29 [] [vA n_m m3] (fun r rows => r = .tup 3 (nthP [.lsl 0 0 3, .val (.slice none 0 0), .val (.slice none 0 0)]) ∧ rows = [oRow cD 21 3 (lF dD m3)]) := by
  refine rows_of (G := G.toPg) (fn := Tryz.f29) Tryz.func29 rfl rfl rfl ?_; intro Γ hk
  repeat' (first | refine yo ?_ ?_ | refine yw ?_ ?_ | refine yk ?_ ?_ | exact trivial | with_reducible refine wA ?_ ?_ | refine ys ?_ ?_ | refine xs_done ?_ | refine yl ?_ ?_ | refine w8 ?_ | refine w9 ?_ | refine w1 ?_ | refine w2 ?_ | refine w3 ?_ | refine w4 ?_ | refine w5 ?_ | refine w6 ?_ | refine w7 ?_ | refine yo0 ?_ ?_ | refine yw0 ?_ ?_ | exact qq | fail)
  refine ploopN 4 ?_
  repeat' (first | refine yo ?_ ?_ | refine yw ?_ ?_ | refine yk ?_ ?_ | exact trivial | with_reducible refine wA ?_ ?_ | refine ys ?_ ?_ | refine xs_done ?_ | refine yl ?_ ?_ | exact ⟨Nat.le_refl _, (by rw [hk]; exact Nat.le_of_ble_eq_true rfl), Nat.le_of_eq (Nat.zero_add _), (show (_ : Nat) * 216 ≤ 140737488355328 from by omega), (show (_ : Nat) ≤ 9223372036854775807 from by omega)⟩ | refine w8 ?_ | refine w9 ?_ | refine w1 ?_ | refine w2 ?_ | refine w3 ?_ | refine w4 ?_ | refine w5 ?_ | refine w6 ?_ | refine w7 ?_ | refine yo0 ?_ ?_ | refine yw0 ?_ ?_ | exact qq | fail)
  refine xdone ?_
  replace hk : Γ.k0 = 0 := hk
  exact kretr (st' := ⟨[(2, .lsl 0 0 3), (3, .val (.slice none 0 0)), (4, .val (.slice none 0 0))], [oRow cD 21 3 (lF dD m3)]⟩) (can_rowsv [9] (k0_sel hk rfl) rfl (.cons rfl (o_eq cD_cl (Nat.le_refl _) fun a ha b hb => by
    have hb : b < 21 := hb
    rcases (by omega : a = 0 ∨ a = 1 ∨ a = 2) with rfl | rfl | rfl <;> rcases split21 hb with rfl | rfl | rfl | rfl | rfl | rfl | rfl | rfl | rfl | rfl | rfl | rfl | rfl | rfl | rfl | rfl | rfl | rfl | rfl | rfl | rfl <;> rfl) .nil) tmq) rfl ⟨trivial, trivial, trivial, trivial⟩ rfl ⟨rfl, rfl⟩
set_option maxHeartbeats 4000000 in
theorem names3_c : PureC G.P 23 [vA n_m m3] (fun r => r = .tup 3 (nthP [.vsl 3 21 (tF cD (lF dD m3)), .vsl 0 21 (tF cD (lF dD m3)), .vsl 0 21 (tF cD (lF dD m3))])) := by
  refine pure_of (G := G.toPg) (fn := Tryz.f23) Tryz.func23 rfl rfl rfl ?_; intro Γ hk
  repeat' (first | refine yo ?_ ?_ | refine yw ?_ ?_ | refine yk ?_ ?_ | exact trivial | with_reducible refine wA ?_ ?_ | refine ys ?_ ?_ | refine xs_done ?_ | refine yl ?_ ?_ | refine w8 ?_ | refine w9 ?_ | refine w1 ?_ | refine w2 ?_ | refine w3 ?_ | refine w4 ?_ | refine w5 ?_ | refine w6 ?_ | refine w7 ?_ | refine yo0 ?_ ?_ | refine yw0 ?_ ?_ | exact qq | fail)
  refine pop_rowsc [] rfl rfl rfl rfl rfl rfl .nil divide3_r (by exact ⟨PEq.cl _ (fun i hi => clL_nth _ i ⟨trivial, trivial, trivial⟩), trivial⟩) ?_
  rintro r rows ⟨rfl, rfl⟩
  refine ⟨_, _, rfl, ⟨o_cl cD_cl _ _ _, trivial⟩, rfl, ?_⟩
  repeat' (first | refine yo ?_ ?_ | refine yw ?_ ?_ | refine yk ?_ ?_ | exact trivial | with_reducible refine wA ?_ ?_ | refine ys ?_ ?_ | refine xs_done ?_ | refine yl ?_ ?_ | refine w8 ?_ | refine w9 ?_ | refine w1 ?_ | refine w2 ?_ | refine w3 ?_ | refine w4 ?_ | refine w5 ?_ | refine w6 ?_ | refine w7 ?_ | refine yo0 ?_ ?_ | refine yw0 ?_ ?_ | exact qq | fail)
  refine ploopN 4 ?_
  repeat' (first | refine yo ?_ ?_ | refine yw ?_ ?_ | refine yk ?_ ?_ | exact trivial | with_reducible refine wA ?_ ?_ | refine ys ?_ ?_ | refine xs_done ?_ | refine yl ?_ ?_ | refine w8 ?_ | refine w9 ?_ | refine w1 ?_ | refine w2 ?_ | refine w3 ?_ | refine w4 ?_ | refine w5 ?_ | refine w6 ?_ | refine w7 ?_ | refine yo0 ?_ ?_ | refine yw0 ?_ ?_ | exact qq | fail)
  refine ploopN 4 ?_
  repeat' (first | refine yo ?_ ?_ | refine yw ?_ ?_ | refine yk ?_ ?_ | exact trivial | with_reducible refine wA ?_ ?_ | refine ys ?_ ?_ | refine xs_done ?_ | refine yl ?_ ?_ | (refine pop_callc [] rfl rfl rfl rfl rfl rfl (fun _ h => by cases h) (clone0E_c _) (args_cl _ rfl) ?_; rintro _ rfl) | (refine pop_callc [] rfl rfl rfl rfl rfl rfl (fun _ h => by cases h) (copy0_c _ _ _ _ _ _ _ _ _ _) (args_cl _ rfl) ?_; rintro _ rfl) | refine w8 ?_ | refine w9 ?_ | refine w1 ?_ | refine w2 ?_ | refine w3 ?_ | refine w4 ?_ | refine w5 ?_ | refine w6 ?_ | refine w7 ?_ | refine yo0 ?_ ?_ | refine yw0 ?_ ?_ | exact qq | fail)
  refine ploopN 1 ?_
  repeat' (first | refine yo ?_ ?_ | refine yw ?_ ?_ | refine yk ?_ ?_ | exact trivial | with_reducible refine wA ?_ ?_ | refine ys ?_ ?_ | refine xs_done ?_ | refine yl ?_ ?_ | refine w8 ?_ | refine w9 ?_ | refine w1 ?_ | refine w2 ?_ | refine w3 ?_ | refine w4 ?_ | refine w5 ?_ | refine w6 ?_ | refine w7 ?_ | refine yo0 ?_ ?_ | refine yw0 ?_ ?_ | exact qq | fail)
  refine ploopN 1 ?_
  repeat' (first | refine yo ?_ ?_ | refine yw ?_ ?_ | refine yk ?_ ?_ | exact trivial | with_reducible refine wA ?_ ?_ | refine ys ?_ ?_ | refine xs_done ?_ | refine yl ?_ ?_ | refine w8 ?_ | refine w9 ?_ | refine w1 ?_ | refine w2 ?_ | refine w3 ?_ | refine w4 ?_ | refine w5 ?_ | refine w6 ?_ | refine w7 ?_ | refine yo0 ?_ ?_ | refine yw0 ?_ ?_ | exact qq | fail)
  refine xdone ?_
  refine kret [1] rfl ⟨trivial, trivial, trivial, trivial⟩ (qs := [.vsl 3 21 (tF cD (lF dD m3)), .vsl 0 21 (tF cD (lF dD m3)), .vsl 0 21 (tF cD (lF dD m3))]) ⟨?_, argNil, argNil, trivial⟩ rfl
  apply argLslX (hL := List.Mem.head _)
  case hr => exact rfl
  case hs => exact trivial
  case hn => exact Nat.le_of_ble_eq_true rfl
  case hc =>
    intro a ha b hb
    have hb : b < 21 := hb
    exact ⟨by rcases (by omega : a = 0 ∨ a = 1 ∨ a = 2) with rfl | rfl | rfl <;> rcases split21 hb with rfl | rfl | rfl | rfl | rfl | rfl | rfl | rfl | rfl | rfl | rfl | rfl | rfl | rfl | rfl | rfl | rfl | rfl | rfl | rfl | rfl <;> rfl, tF_cl cD_cl _ _ _⟩
abbrev rSa : Row := ⟨.own, true, 1, 2, fun _ => nthP [vs n_m, .lsl 0 0 3]⟩
set_option maxHeartbeats 4000000 in
theorem sane20_c : PureC G.P 8 [] (fun r => r = vb true) := by
  refine pure_of (G := G.toPg) (fn := Tryz.f8) Tryz.func8 rfl rfl rfl ?_; intro Γ hk
  repeat' (first | refine yo ?_ ?_ | refine yw ?_ ?_ | refine yk ?_ ?_ | exact trivial | with_reducible refine wA ?_ ?_ | refine ys ?_ ?_ | refine xs_done ?_ | refine yl ?_ ?_ | refine w8 ?_ | refine w9 ?_ | refine w1 ?_ | refine w2 ?_ | refine w3 ?_ | refine w4 ?_ | refine w5 ?_ | refine w6 ?_ | refine w7 ?_ | refine yo0 ?_ ?_ | refine yw0 ?_ ?_ | exact qq | fail)
  refine ocan2 (st' := ⟨[(1, .ptr 1 0 0), (15, .agg 2 (nthP [vs n_m, .lsl 0 0 3]))], [oRow cD 21 3 (lF dD m3), rSa]⟩) (can_rowsv [0, 1] (k0_sel (show Γ.k0 = 0 from hk) rfl) rfl (.cons rfl (o_eqP (Nat.le_refl _) fun a ha b hb => by
    have hb : b < 21 := hb
    rcases (by omega : a = 0 ∨ a = 1 ∨ a = 2) with rfl | rfl | rfl <;> rcases split21 hb with rfl | rfl | rfl | rfl | rfl | rfl | rfl | rfl | rfl | rfl | rfl | rfl | rfl | rfl | rfl | rfl | rfl | rfl | rfl | rfl | rfl <;> first | exact PEq.refl _ | exact peq_nil) (.cons rfl rqq .nil)) (by exact ⟨PEq.refl _, (show PEq (.agg 2 _) (.agg 2 _) from PEq.agg (fun i hi => by rcases (by omega : i = 0 ∨ i = 1) with rfl | rfl <;> exact PEq.refl _)), trivial⟩)) ?_
  refine pop_callc [0] rfl rfl rfl rfl rfl rfl (by intro l hl; rw [show Γ.k0 = 0 from hk]; exact Nat.zero_le _) check3_c ⟨argAgr (arg_o (s := .own) cD_cl rfl trivial (List.Mem.head _)), trivial⟩ ?_
  rintro _ rfl
  repeat' (first | refine yo ?_ ?_ | refine yw ?_ ?_ | refine yk ?_ ?_ | exact trivial | with_reducible refine wA ?_ ?_ | refine ys ?_ ?_ | refine xs_done ?_ | refine yl ?_ ?_ | refine w8 ?_ | refine w9 ?_ | refine w1 ?_ | refine w2 ?_ | refine w3 ?_ | refine w4 ?_ | refine w5 ?_ | refine w6 ?_ | refine w7 ?_ | refine yo0 ?_ ?_ | refine yw0 ?_ ?_ | exact qq | fail)
  refine pop_callc [0] rfl rfl rfl rfl rfl rfl (by intro l hl; rw [show Γ.k0 = 0 from hk]; exact Nat.zero_le _) names3_c ⟨argAgr (arg_o (s := .imm) cD_cl rfl trivial (List.Mem.head _)), trivial⟩ ?_
  rintro _ rfl
  repeat' (first | refine yo ?_ ?_ | refine yw ?_ ?_ | refine yk ?_ ?_ | exact trivial | with_reducible refine wA ?_ ?_ | refine ys ?_ ?_ | refine xs_done ?_ | refine yl ?_ ?_ | (intro h; first | exact ⟨h, by decide, by decide⟩ | exact ⟨by decide, by decide⟩ | exact ⟨h, by decide⟩ | exact ⟨h, h, by decide⟩ | exact ⟨h, h, by decide, by decide⟩) | refine w8 ?_ | refine w9 ?_ | refine w1 ?_ | refine w2 ?_ | refine w3 ?_ | refine w4 ?_ | refine w5 ?_ | refine w6 ?_ | refine w7 ?_ | refine yo0 ?_ ?_ | refine yw0 ?_ ?_ | exact qq | fail)
  refine xdone ?_
  refine kretv rfl ⟨trivial, trivial⟩ rfl (eqB ?_)
  rfl
def IntsAt (w : World) (v : Value) (l : List Int) : Prop :=
  ∃ (a : Option Addr) (cap : Nat), v = .slice a l.length cap ∧ l.length ≤ cap ∧ l.length ≤ 9223372036854775807 ∧
    ∀ k, k < l.length → ∃ b off, a = some ⟨b, off, none⟩ ∧ b < w.heap.size ∧ w.cell? ⟨b, off + k, none⟩ = some (.int .i64 (l.getD k 0))

/-- what New leaves -/
theorem intsAt_of_row {w : World} {a : Option Addr} {len cap : Nat} {zs : List Int} (h : (a = none ∧ len = 0 ∧ cap = 0 ∧ zs = []) ∨ ∃ x, a = some x ∧ len ≤ cap ∧ cap ≤ maxLen ∧ zs.length = cap ∧ (∀ i, i < zs.length → w.cell? (x.add i) = some (.int .i64 (zs.getD i 0))) ∧ ∀ n ∈ zs, (Lit.int .i64 n).wf = true) :
    IntsAt w (.slice a len cap) (zs.take len) := by
  rcases h with ⟨rfl, rfl, rfl, rfl⟩ | ⟨x, rfl, h1, h2, h3, h4, _⟩
  · exact ⟨none, 0, rfl, by simp, by simp, fun k hk => by simp at hk⟩
  · have hl : (zs.take len).length = len := by simp; omega
    unfold maxLen at h2
    refine ⟨some x, cap, by rw [hl], by rw [hl]; omega, by rw [hl]; omega, fun k hk => ?_⟩
    rw [hl] at hk
    have hc := h4 k (by omega)
    have hc0 := h4 0 (by omega)
    obtain ⟨b, off, spot⟩ := x
    have hs : spot = none := by
      cases spot with
      | none => rfl
      | some q =>
        simp only [World.cell?, Addr.add, if_true] at hc0
        split at hc0 <;> simp at hc0
    subst hs
    have hc2 : w.cell? ⟨b, off + k, none⟩ = some (.int .i64 (zs.getD k 0)) := by
      rw [← hc]; congr 1; unfold Addr.add; split <;> simp_all
    refine ⟨b, off, rfl, ?_, by rw [hc2]; simp [List.getElem?_take, hk]⟩
    by_cases hb : b < w.heap.size
    · exact hb
    · simp [World.cell?, Array.getElem?_eq_none (show w.heap.size ≤ b by omega)] at hc2

theorem IntsAt.rel {w : World} {v : Value} {l : List Int} (h : IntsAt w v l) (ρ : Nat → Loc) : VRel 0 ρ (fun b => b < w.heap.size) w (.vsl l.length 1 (tI fun i => l.getD i 0)) v := by
  obtain ⟨a, cap, rfl, hcap, hl, hc⟩ := h
  refine ⟨a, cap, rfl, hcap, ?_⟩
  by_cases h0 : l.length = 0
  · exact .inl h0
  · obtain ⟨b, off, e1, e2, _⟩ := hc 0 (by omega)
    refine .inr ⟨b, off, e1, e2, fun i hi j hj => ?_⟩
    obtain ⟨b', off', f1, f2, f3⟩ := hc i hi
    rw [e1] at f1
    simp only [Option.some.injEq, Addr.mk.injEq] at f1
    obtain ⟨rfl, rfl, _⟩ := f1
    obtain rfl : j = 0 := by omega
    exact ⟨_, by simpa using f3, rfl, rfl⟩
/-- a law's walk -/
theorem law_of {P : Program} {f : FuncId} {args : List PV} {vs : List Value} {w : World} (h : PureC P f args (fun r => r = vb true)) (ha : ARel (fun _ => ⟨0, 0, 0⟩) (fun b => b < w.heap.size) w args vs) :
    Calls P f vs.toArray w fun e w' => e = .returned (.bool true) ∧ Ext w w' :=
  (h.2 _ _ w vs (fun _ h => h) ha).mono fun e w' ⟨v, r, h1, h2, h3, h4⟩ => by
    subst h2; exact ⟨by rw [h1, show v = .bool true from h4], h3⟩
end Go.Proofs.YtnlcenlamkfmnaaGreat
