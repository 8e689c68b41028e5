/- payrollgen: fractions (without steps). -/
import Derived.Test.YtcghpepighboaaaDoorPvTap
import Derived.Test.YtcghpepighboaaaDoorVal0
import Derived.Test.YtcghpepighboaaaDoorVal5
import Derived.Test.YtcghpepighboaaaDoorX11
set_option linter.unusedSimpArgs false
set_option linter.unusedVariables false
set_option maxRecDepth 100000
namespace Go.Proofs.YtcghpepighboaaaDoor
theorem ok_den1 (x : Int) (h1 : -1000000000000 ≤ x) (h2 : x ≤ 1000000000000) : okR x 1 = true := by
  simp only [okR, decide_eq_true_eq]
  refine ⟨by omega, by omega, h1, h2, by simp [Int.gcd]⟩
theorem tmod_bd (x k : Int) (h : 1 ≤ k) : -k < x.tmod k ∧ x.tmod k < k := by
  obtain ⟨_, _, h1, h2⟩ := tmod_cases x k h
  exact ⟨h1, h2⟩
theorem ok_tmod (x : Int) : okR (x.tmod 1000) 1 = true := by
  have := tmod_bd x 1000 (by omega)
  exact ok_den1 _ (by omega) (by omega)
theorem ratio_t : TapC G.P 57 [] (fun r => ∃ a b : Int, r = vr a b ∧ okR a b = true) := by
  intro n g at_ hn h1 h2
  refine ptr_of (G := G.toPg) (fn := Tryd.f57) Tryd.func57 rfl rfl rfl ?_; intro Γ hk
  repeat' (first | ((with_reducible (show POps _ _ _ _ (_ :: _) _ _)); (first | refine pop_read rfl rfl rfl rfl trivial ?_ | refine pop_guard rfl rfl rfl rfl rfl qgd ?_ | refine pop_new rfl rfl rfl rfl trivial ?_ | refine pop_store rfl rfl rfl Nat.zero_lt_one ?_ | refine pop_read rfl rfl rfl rfl qrd ?_ | refine pop_read2 rfl rfl rfl rfl trivial ?_ | refine pop_store rfl rfl rfl qst ?_ | (refine tn1 hn ?_; rintro at_ b1 b2 x hx1 hx2) | (refine pop_tapl (G := G) rfl rfl rfl rfl rfl rfl rfl rfl rfl rfl rfl (by omega) rfl (fun _ => rfl) rfl (pick_t _ _ rfl (by decide) (by decide)) hn (by assumption) (by assumption) ?_; rintro at_ _ b1 b2 ⟨x, rfl, hx⟩; simp only [unL, List.mem_cons, List.not_mem_nil, or_false] at hx) | refine pop_make rfl rfl rfl rfl trivial ?_ | refine pop_callv rfl rfl rfl rfl rfl (ref1New_c _ _ (by first | exact wb1 _ | omega) (by first | exact wb2 _ | omega) (by first | exact wb1 _ | omega) (by first | exact wb2 _ | omega)) rfl rfl rfl ?_ | fail)) | refine pnil ?_ | refine kround_exit ?_ | refine kround_ret ?_ | refine kround_next ?_ | refine kseq_normal ?_ | refine pseq ?_ | refine pregion ?_ | refine pret ?_ | refine kseq_ret ?_ | refine pskip ?_ | refine pblock ?_ | refine pexit ?_ | refine kseq_exit ?_ | refine kblock_hit rfl ?_ | refine kblock_miss rfl ?_ | refine kblock_ret ?_ | refine kblock_normal ?_ | refine kloop_ret ?_ | refine kloop_exit ?_ | refine kcut_ret ?_ | refine kcut_exit ?_ | refine pcond_t rfl ?_ | refine pcond_f rfl ?_ | (with_reducible (show POps _ _ _ _ _ _ _); simp only [List.append_eq, List.cons_append, List.nil_append]) | (refine pcond rfl ?_ ?_ <;> intro hc))
  all_goals refine ktap rfl b1 b2 rfl ⟨Nat.zero_lt_one, trivial⟩ rfl ⟨_, _, rfl, ?_⟩
  all_goals first
    | exact ok_tmod _
    | (simp at hc; refine (newS_spec ?_ hc).1; first | omega | (rw [w64 (by omega) (by omega)]; omega))
    | trace_state
theorem fraction_t : TapC G.P 26 [] (fun r => ∃ a b : Int, r = vr a b ∧ -9223372036854775808 ≤ a ∧ a ≤ 9223372036854775807) := by
  intro n g at_ hn h1 h2
  refine ptr_of (G := G.toPg) (fn := Tryd.f26) Tryd.func26 rfl rfl rfl ?_; intro Γ hk
  repeat' (first | ((with_reducible (show POps _ _ _ _ (_ :: _) _ _)); (first | refine pop_read rfl rfl rfl rfl trivial ?_ | refine pop_guard rfl rfl rfl rfl rfl qgd ?_ | refine pop_new rfl rfl rfl rfl trivial ?_ | refine pop_store rfl rfl rfl Nat.zero_lt_one ?_ | refine pop_read rfl rfl rfl rfl qrd ?_ | refine pop_read2 rfl rfl rfl rfl trivial ?_ | refine pop_store rfl rfl rfl qst ?_ | fail)) | refine pnil ?_ | refine kround_exit ?_ | refine kround_ret ?_ | refine kround_next ?_ | refine kseq_normal ?_ | refine pseq ?_ | refine pregion ?_ | refine pret ?_ | refine kseq_ret ?_ | refine pskip ?_ | refine pblock ?_ | refine pexit ?_ | refine kseq_exit ?_ | refine kblock_hit rfl ?_ | refine kblock_miss rfl ?_ | refine kblock_ret ?_ | refine kblock_normal ?_ | refine kloop_ret ?_ | refine kloop_exit ?_ | refine kcut_ret ?_ | refine kcut_exit ?_ | refine pcond_t rfl ?_ | refine pcond_f rfl ?_ | (with_reducible (show POps _ _ _ _ _ _ _); simp only [List.append_eq, List.cons_append, List.nil_append]))
  refine pop_tap (G := G) rfl rfl rfl rfl rfl rfl rfl rfl (fun _ => rfl) (ratio_t) hn (by assumption) (by assumption) rfl rfl ?_; rintro at_ _ b1 b2 ⟨a, b, rfl, hab⟩
  obtain ⟨r1, r2, r3, r4⟩ := okR_bd hab
  repeat' (first | ((with_reducible (show POps _ _ _ _ (_ :: _) _ _)); (first | refine pop_read rfl rfl rfl rfl trivial ?_ | refine pop_guard rfl rfl rfl rfl rfl qgd ?_ | refine pop_new rfl rfl rfl rfl trivial ?_ | refine pop_store rfl rfl rfl Nat.zero_lt_one ?_ | refine pop_read rfl rfl rfl rfl qrd ?_ | refine pop_read2 rfl rfl rfl rfl trivial ?_ | refine pop_store rfl rfl rfl qst ?_ | (refine tn1 hn ?_; rintro at_ b1 b2 x hx1 hx2) | (refine pop_tapl (G := G) rfl rfl rfl rfl rfl rfl rfl rfl rfl rfl rfl (by omega) rfl (fun _ => rfl) rfl (pick_t _ _ rfl (by decide) (by decide)) hn (by assumption) (by assumption) ?_; rintro at_ _ b1 b2 ⟨x, rfl, hx⟩; simp only [unL, List.mem_cons, List.not_mem_nil, or_false] at hx) | refine pop_make rfl rfl rfl rfl trivial ?_ | fail)) | refine pnil ?_ | refine kround_exit ?_ | refine kround_ret ?_ | refine kround_next ?_ | refine kseq_normal ?_ | refine pseq ?_ | refine pregion ?_ | refine pret ?_ | refine kseq_ret ?_ | refine pskip ?_ | refine pblock ?_ | refine pexit ?_ | refine kseq_exit ?_ | refine kblock_hit rfl ?_ | refine kblock_miss rfl ?_ | refine kblock_ret ?_ | refine kblock_normal ?_ | refine kloop_ret ?_ | refine kloop_exit ?_ | refine kcut_ret ?_ | refine kcut_exit ?_ | refine pcond_t rfl ?_ | refine pcond_f rfl ?_ | (with_reducible (show POps _ _ _ _ _ _ _); simp only [List.append_eq, List.cons_append, List.nil_append]) | (refine pcond rfl ?_ ?_ <;> intro hc))
  all_goals refine ktap rfl b1 b2 rfl ⟨Nat.zero_lt_one, trivial⟩ rfl ⟨_, _, rfl, ?_, ?_⟩
  all_goals first | exact wb1 _ | exact wb2 _ | omega
theorem small_t : TapC G.P 58 [] (fun r => ∃ a b : Int, r = vr a b ∧ -1000 ≤ a ∧ a ≤ 1000 ∧ (b = 1 ∨ b = 2)) := by
  intro n g at_ hn h1 h2
  refine ptr_of (G := G.toPg) (fn := Tryd.f58) Tryd.func58 rfl rfl rfl ?_; intro Γ hk
  repeat' (first | refine yo ?_ ?_ | refine yw ?_ ?_ | refine yk ?_ ?_ | exact trivial | with_reducible refine wA ?_ ?_ | refine ys ?_ ?_ | refine xs_done ?_ | refine yl ?_ ?_ | (refine tn1 hn ?_; rintro at_ b1 b2 x hx1 hx2) | refine w8 ?_ | refine w9 ?_ | refine w1 ?_ | refine w2 ?_ | refine w3 ?_ | refine w4 ?_ | refine w5 ?_ | refine w6 ?_ | refine w7 ?_ | refine yo0 ?_ ?_ | refine yw0 ?_ ?_ | exact qq | fail)
  · exact (show (2 : Int) ≠ 0 from by decide)
  rw [w64 (n := x - 20) (by omega) (by omega)]
  refine pcond rfl ?_ ?_ <;> intro hc
  · repeat' (first | refine yo ?_ ?_ | refine yw ?_ ?_ | refine yk ?_ ?_ | exact trivial | with_reducible refine wA ?_ ?_ | refine ys ?_ ?_ | refine xs_done ?_ | refine yl ?_ ?_ | refine w8 ?_ | refine w9 ?_ | refine w1 ?_ | refine w2 ?_ | refine w3 ?_ | refine w4 ?_ | refine w5 ?_ | refine w6 ?_ | refine w7 ?_ | refine yo0 ?_ ?_ | refine yw0 ?_ ?_ | exact qq | fail)
    refine xdone ?_
    exact ktap rfl b1 b2 rfl ⟨Nat.zero_lt_one, trivial⟩ rfl ⟨_, _, rfl, by omega, by omega, .inr rfl⟩
  · repeat' (first | refine yo ?_ ?_ | refine yw ?_ ?_ | refine yk ?_ ?_ | exact trivial | with_reducible refine wA ?_ ?_ | refine ys ?_ ?_ | refine xs_done ?_ | refine yl ?_ ?_ | refine w8 ?_ | refine w9 ?_ | refine w1 ?_ | refine w2 ?_ | refine w3 ?_ | refine w4 ?_ | refine w5 ?_ | refine w6 ?_ | refine w7 ?_ | refine yo0 ?_ ?_ | refine yw0 ?_ ?_ | exact qq | fail)
    refine xdone ?_
    exact ktap rfl b1 b2 rfl ⟨Nat.zero_lt_one, trivial⟩ rfl ⟨_, _, rfl, by omega, by omega, .inl rfl⟩
structure InOk (N : List In) : Prop where
  len : N.length ≤ 10
  pos : 0 < N.length
  bd : ∀ x, x ∈ N → -9223372036854775808 ≤ x.n ∧ x.n ≤ 9223372036854775807
theorem argIn {mem : List Row} {L : List Nat} {l n n' : Nat} {f : Nat → Nat → PV} {N : List In} (hr : rowAt mem l = some ⟨.own, false, n', 3, f⟩) (hN : N.length = n) (hn : n ≤ n') (hL : l ∈ L) (hf : ∀ a, a < n → ∀ b, b < 3 → f a b = nthP (cIn (lF dIn N a)) b) : ArgOk mem L (.lsl l 0 n) (vIns N) := by
  subst hN
  exact argLsl (r := ⟨.own, false, n', 3, f⟩) hr trivial hL (by simpa using hn) fun a ha b hb => ⟨by rw [Nat.zero_add]; exact hf a ha b hb, tF_cl cIn_cl _ a b⟩
theorem c3 {b : Nat} (h : b < 3) : b = 0 ∨ b = 1 ∨ b = 2 := by omega
theorem next3i_t : TapC G.P 18 [vi 3] (fun r => ∃ x : Int, r = vi x ∧ (x = 0 ∨ x = 1 ∨ x = 2)) := (next_t 3 (by omega)).mono fun r ⟨x, h, h1, h2⟩ => ⟨x, h, by omega⟩
theorem inOk_of {N : List In} (h1 : N.length ≤ 10) (h2 : 0 < N.length) (h3 : (N.all fun x => decide (-9223372036854775808 ≤ x.n ∧ x.n ≤ 9223372036854775807)) = true) : InOk N := ⟨h1, h2, fun x hx => of_decide_eq_true (List.all_eq_true.1 h3 x hx)⟩
abbrev nH (a b : Int) : In := ⟨n_h, a, b⟩
abbrev nG (a b : Int) : In := ⟨n_g, a, b⟩
abbrev nF (a b : Int) : In := ⟨n_f, a, b⟩
abbrev nR : In := ⟨n_r1, 9, 1⟩
theorem bdT {x : Int} (h1 : -9223372036854775808 ≤ x) (h2 : x ≤ 9223372036854775807) : decide (-9223372036854775808 ≤ x ∧ x ≤ 9223372036854775807) = true := decide_eq_true ⟨h1, h2⟩
abbrev insPost (n : Nat) (g : Nat → Int) : PV → List Row → Prop := fun r rows => ∃ (at' : Int) (k : Nat) (N : List In), 0 ≤ at' ∧ at' ≤ n ∧ N.length = k + 1 ∧ InOk N ∧ r = .lsl 1 0 (k + 1) ∧ rows = [tapeRow n g at', oRow cIn 3 (k + 1) (lF dIn N)]
set_option maxHeartbeats 4000000 in
theorem inputs_r (n : Nat) (g : Nat → Int) (at_ : Int) (hn : n ≤ 9223372036854775807) (h1 : 0 ≤ at_) (h2 : at_ ≤ n) : RowsC G.P 28 [tapeRow n g at_] [.ptr 0 0 0] (insPost n g) := by
  refine rows_of (G := G.toPg) (fn := Tryd.f28) Tryd.func28 rfl rfl rfl ?_; intro Γ hk
  replace hk : Γ.k0 = 1 := hk
  repeat' (first | refine yo ?_ ?_ | refine yw ?_ ?_ | refine yk ?_ ?_ | exact trivial | with_reducible refine wA ?_ ?_ | refine ys ?_ ?_ | refine xs_done ?_ | refine yl ?_ ?_ | (refine t1 small_t hn ?_; rintro at_ _ b1 b2 ⟨a, b, rfl, ha1, ha2, hb⟩) | (refine t2 small_t hn ?_; rintro at_ _ b1 b2 ⟨a, b, rfl, ha1, ha2, hb⟩) | (refine t3 small_t hn ?_; rintro at_ _ b1 b2 ⟨a, b, rfl, ha1, ha2, hb⟩) | (refine tn1 hn ?_; rintro at_ b1 b2 x hx1 hx2) | refine w8 ?_ | refine w9 ?_ | refine w1 ?_ | refine w2 ?_ | refine w3 ?_ | refine w4 ?_ | refine w5 ?_ | refine w6 ?_ | refine w7 ?_ | refine yo0 ?_ ?_ | refine yw0 ?_ ?_ | exact qq | fail)
  rename_i c d p1 p2 p3 _ _ _ _ _ _ z hz1 hz2
  have B : ∀ (c' d' a' b' z' w' : Int), -9223372036854775808 ≤ c' → c' ≤ 9223372036854775807 → -9223372036854775808 ≤ a' → a' ≤ 9223372036854775807 → -9223372036854775808 ≤ z' → z' ≤ 9223372036854775807 → InOk [nH c' d', nG a' b', nF z' w'] ∧ InOk [nH c' d', nG a' b', nR] ∧ InOk [nH c' d', nR] ∧ InOk [nR] ∧ InOk [nH c' d', nG a' b', nF z' w', nH 77 1] := fun c' d' a' b' z' w' e1 e2 e3 e4 e5 e6 => by
    have q1 := bdT e1 e2
    have q2 := bdT e3 e4
    have q3 := bdT e5 e6
    refine ⟨inOk_of (Nat.le_of_ble_eq_true rfl) (Nat.succ_pos _) ?_, inOk_of (Nat.le_of_ble_eq_true rfl) (Nat.succ_pos _) ?_, inOk_of (Nat.le_of_ble_eq_true rfl) (Nat.succ_pos _) ?_, inOk_of (Nat.le_of_ble_eq_true rfl) (Nat.succ_pos _) ?_, inOk_of (Nat.le_of_ble_eq_true rfl) (Nat.succ_pos _) ?_⟩ <;> simp only [List.all_cons, List.all_nil, Bool.and_eq_true, q1, q2, q3] <;> decide
  refine pcond rfl ?_ ?_ <;> intro hc
  · repeat' (first | refine yo ?_ ?_ | refine yw ?_ ?_ | refine yk ?_ ?_ | exact trivial | with_reducible refine wA ?_ ?_ | refine ys ?_ ?_ | refine xs_done ?_ | refine yl ?_ ?_ | (refine t1 next3i_t hn ?_; rintro at_ _ b1 b2 ⟨y, rfl, (rfl | rfl | rfl)⟩) | (refine t2 next3i_t hn ?_; rintro at_ _ b1 b2 ⟨y, rfl, (rfl | rfl | rfl)⟩) | (refine t3 next3i_t hn ?_; rintro at_ _ b1 b2 ⟨y, rfl, (rfl | rfl | rfl)⟩) | exact ⟨Nat.le_of_ble_eq_true rfl, (by rw [hk]; exact Nat.le_of_ble_eq_true rfl), Nat.le_of_ble_eq_true rfl, Nat.le_of_ble_eq_true rfl, Nat.le_of_ble_eq_true rfl⟩ | exact ⟨trivial, trivial, by decide, by decide, by decide⟩ | refine w8 ?_ | refine w9 ?_ | refine w1 ?_ | refine w2 ?_ | refine w3 ?_ | refine w4 ?_ | refine w5 ?_ | refine w6 ?_ | refine w7 ?_ | refine yo0 ?_ ?_ | refine yw0 ?_ ?_ | exact qq | fail)
    · refine xdone ?_
      exact kretr (st' := ⟨[(2, .lsl 1 0 (0 + 1))], [tapeRow n g _, oRow cIn 3 (0 + 1) (lF dIn [nR])]⟩) (can_rowsv [0, 3] (k0_sel hk rfl) rfl (.cons rfl (RowEq.cl (tape_cl _ _ _)) (.cons rfl (o_eq cIn_cl (Nat.le_refl _) (fun x hx y hy => by
        obtain rfl : x = 0 := by omega
        rcases c3 hy with rfl | rfl | rfl <;> rfl)) .nil)) tmq) rfl ⟨trivial, trivial⟩ rfl ⟨_, 0, [nR], b1, b2, rfl, (B c d a b z 1 (by omega) (by omega) (by omega) (by omega) (by omega) (by omega)).2.2.2.1, rfl, rfl⟩
    · refine xdone ?_
      exact kretr (st' := ⟨[(2, .lsl 1 0 (1 + 1))], [tapeRow n g _, oRow cIn 3 (1 + 1) (lF dIn [nH c d, nR])]⟩) (can_rowsv [0, 3] (k0_sel hk rfl) rfl (.cons rfl (RowEq.cl (tape_cl _ _ _)) (.cons rfl (o_eq cIn_cl (Nat.le_refl _) (fun x hx y hy => by
        rcases (by omega : x = 0 ∨ x = 1) with rfl | rfl <;> rcases c3 hy with rfl | rfl | rfl <;> rfl)) .nil)) tmq) rfl ⟨trivial, trivial⟩ rfl ⟨_, 1, [nH c d, nR], b1, b2, rfl, (B c d a b z 1 (by omega) (by omega) (by omega) (by omega) (by omega) (by omega)).2.2.1, rfl, rfl⟩
    · refine xdone ?_
      exact kretr (st' := ⟨[(2, .lsl 1 0 (2 + 1))], [tapeRow n g _, oRow cIn 3 (2 + 1) (lF dIn [nH c d, nG a b, nR])]⟩) (can_rowsv [0, 3] (k0_sel hk rfl) rfl (.cons rfl (RowEq.cl (tape_cl _ _ _)) (.cons rfl (o_eq cIn_cl (Nat.le_refl _) (fun x hx y hy => by
        rcases c3 (show x < 3 from hx) with rfl | rfl | rfl <;> rcases c3 hy with rfl | rfl | rfl <;> rfl)) .nil)) tmq) rfl ⟨trivial, trivial⟩ rfl ⟨_, 2, [nH c d, nG a b, nR], b1, b2, rfl, (B c d a b z 1 (by omega) (by omega) (by omega) (by omega) (by omega) (by omega)).2.1, rfl, rfl⟩
  · repeat' (first | refine yo ?_ ?_ | refine yw ?_ ?_ | refine yk ?_ ?_ | exact trivial | with_reducible refine wA ?_ ?_ | refine ys ?_ ?_ | refine xs_done ?_ | refine yl ?_ ?_ | refine w8 ?_ | refine w9 ?_ | refine w1 ?_ | refine w2 ?_ | refine w3 ?_ | refine w4 ?_ | refine w5 ?_ | refine w6 ?_ | refine w7 ?_ | refine yo0 ?_ ?_ | refine yw0 ?_ ?_ | exact qq | fail)
    refine pcond rfl ?_ ?_ <;> intro hc8
    · repeat' (first | refine yo ?_ ?_ | refine yw ?_ ?_ | refine yk ?_ ?_ | exact trivial | with_reducible refine wA ?_ ?_ | refine ys ?_ ?_ | refine xs_done ?_ | refine yl ?_ ?_ | (refine t1 next3i_t hn ?_; rintro at_ _ b1 b2 ⟨y, rfl, (rfl | rfl | rfl)⟩) | (refine t2 next3i_t hn ?_; rintro at_ _ b1 b2 ⟨y, rfl, (rfl | rfl | rfl)⟩) | (refine t3 next3i_t hn ?_; rintro at_ _ b1 b2 ⟨y, rfl, (rfl | rfl | rfl)⟩) | (refine t1 fraction_t hn ?_; rintro at_ _ b1 b2 ⟨u, v, rfl, hu, hv⟩) | (refine t2 fraction_t hn ?_; rintro at_ _ b1 b2 ⟨u, v, rfl, hu, hv⟩) | (refine t3 fraction_t hn ?_; rintro at_ _ b1 b2 ⟨u, v, rfl, hu, hv⟩) | refine w8 ?_ | refine w9 ?_ | refine w1 ?_ | refine w2 ?_ | refine w3 ?_ | refine w4 ?_ | refine w5 ?_ | refine w6 ?_ | refine w7 ?_ | refine yo0 ?_ ?_ | refine yw0 ?_ ?_ | exact qq | fail)
      · refine xdone ?_
        exact kretr (st' := ⟨[(2, .lsl 1 0 (2 + 1))], [tapeRow n g _, oRow cIn 3 (2 + 1) (lF dIn [nH u v, nG a b, nF z 1])]⟩) (can_rowsv [0, 1] (k0_sel hk rfl) rfl (.cons rfl (RowEq.cl (tape_cl _ _ _)) (.cons rfl (o_eq cIn_cl (Nat.le_refl _) (fun x hx y hy => by
          rcases c3 (show x < 3 from hx) with rfl | rfl | rfl <;> rcases c3 hy with rfl | rfl | rfl <;> rfl)) .nil)) tmq) rfl ⟨trivial, trivial⟩ rfl ⟨_, 2, [nH u v, nG a b, nF z 1], b1, b2, rfl, (B u v a b z 1 (by omega) (by omega) (by omega) (by omega) (by omega) (by omega)).1, rfl, rfl⟩
      · refine xdone ?_
        exact kretr (st' := ⟨[(2, .lsl 1 0 (2 + 1))], [tapeRow n g _, oRow cIn 3 (2 + 1) (lF dIn [nH c d, nG u v, nF z 1])]⟩) (can_rowsv [0, 1] (k0_sel hk rfl) rfl (.cons rfl (RowEq.cl (tape_cl _ _ _)) (.cons rfl (o_eq cIn_cl (Nat.le_refl _) (fun x hx y hy => by
          rcases c3 (show x < 3 from hx) with rfl | rfl | rfl <;> rcases c3 hy with rfl | rfl | rfl <;> rfl)) .nil)) tmq) rfl ⟨trivial, trivial⟩ rfl ⟨_, 2, [nH c d, nG u v, nF z 1], b1, b2, rfl, (B c d u v z 1 (by omega) (by omega) (by omega) (by omega) (by omega) (by omega)).1, rfl, rfl⟩
      · refine xdone ?_
        exact kretr (st' := ⟨[(2, .lsl 1 0 (2 + 1))], [tapeRow n g _, oRow cIn 3 (2 + 1) (lF dIn [nH c d, nG a b, nF u v])]⟩) (can_rowsv [0, 1] (k0_sel hk rfl) rfl (.cons rfl (RowEq.cl (tape_cl _ _ _)) (.cons rfl (o_eq cIn_cl (Nat.le_refl _) (fun x hx y hy => by
          rcases c3 (show x < 3 from hx) with rfl | rfl | rfl <;> rcases c3 hy with rfl | rfl | rfl <;> rfl)) .nil)) tmq) rfl ⟨trivial, trivial⟩ rfl ⟨_, 2, [nH c d, nG a b, nF u v], b1, b2, rfl, (B c d a b u v (by omega) (by omega) (by omega) (by omega) (by omega) (by omega)).1, rfl, rfl⟩
    · repeat' (first | refine yo ?_ ?_ | refine yw ?_ ?_ | refine yk ?_ ?_ | exact trivial | with_reducible refine wA ?_ ?_ | refine ys ?_ ?_ | refine xs_done ?_ | refine yl ?_ ?_ | refine w8 ?_ | refine w9 ?_ | refine w1 ?_ | refine w2 ?_ | refine w3 ?_ | refine w4 ?_ | refine w5 ?_ | refine w6 ?_ | refine w7 ?_ | refine yo0 ?_ ?_ | refine yw0 ?_ ?_ | exact qq | fail)
      refine pcond rfl ?_ ?_ <;> intro hc9
      · repeat' (first | refine yo ?_ ?_ | refine yw ?_ ?_ | refine yk ?_ ?_ | exact trivial | with_reducible refine wA ?_ ?_ | refine ys ?_ ?_ | refine xs_done ?_ | refine yl ?_ ?_ | exact ⟨Nat.le_of_ble_eq_true rfl, (by rw [hk]; exact Nat.le_of_ble_eq_true rfl), Nat.le_of_ble_eq_true rfl, Nat.le_of_ble_eq_true rfl, Nat.le_of_ble_eq_true rfl⟩ | refine w8 ?_ | refine w9 ?_ | refine w1 ?_ | refine w2 ?_ | refine w3 ?_ | refine w4 ?_ | refine w5 ?_ | refine w6 ?_ | refine w7 ?_ | refine yo0 ?_ ?_ | refine yw0 ?_ ?_ | exact qq | fail)
        refine xdone ?_
        exact kretr (st' := ⟨[(2, .lsl 1 0 (3 + 1))], [tapeRow n g _, oRow cIn 3 (3 + 1) (lF dIn [nH c d, nG a b, nF z 1, nH 77 1])]⟩) (can_rowsv [0, 3] (k0_sel hk rfl) rfl (.cons rfl (RowEq.cl (tape_cl _ _ _)) (.cons rfl (o_eq cIn_cl (Nat.le_refl _) (fun x hx y hy => by
          rcases (by omega : x = 0 ∨ x = 1 ∨ x = 2 ∨ x = 3) with rfl | rfl | rfl | rfl <;> rcases c3 hy with rfl | rfl | rfl <;> rfl)) .nil)) tmq) rfl ⟨trivial, trivial⟩ rfl ⟨_, 3, [nH c d, nG a b, nF z 1, nH 77 1], b1, b2, rfl, (B c d a b z 1 (by omega) (by omega) (by omega) (by omega) (by omega) (by omega)).2.2.2.2, rfl, rfl⟩
      · repeat' (first | refine yo ?_ ?_ | refine yw ?_ ?_ | refine yk ?_ ?_ | exact trivial | with_reducible refine wA ?_ ?_ | refine ys ?_ ?_ | refine xs_done ?_ | refine yl ?_ ?_ | refine w8 ?_ | refine w9 ?_ | refine w1 ?_ | refine w2 ?_ | refine w3 ?_ | refine w4 ?_ | refine w5 ?_ | refine w6 ?_ | refine w7 ?_ | refine yo0 ?_ ?_ | refine yw0 ?_ ?_ | exact qq | fail)
        refine xdone ?_
        exact kretr (st' := ⟨[(2, .lsl 1 0 (2 + 1))], [tapeRow n g _, oRow cIn 3 (2 + 1) (lF dIn [nH c d, nG a b, nF z 1])]⟩) (can_rowsv [0, 1] (k0_sel hk rfl) rfl (.cons rfl (RowEq.cl (tape_cl _ _ _)) (.cons rfl (o_eq cIn_cl (Nat.le_refl _) (fun x hx y hy => by
          rcases c3 (show x < 3 from hx) with rfl | rfl | rfl <;> rcases c3 hy with rfl | rfl | rfl <;> rfl)) .nil)) tmq) rfl ⟨trivial, trivial⟩ rfl ⟨_, 2, [nH c d, nG a b, nF z 1], b1, b2, rfl, (B c d a b z 1 (by omega) (by omega) (by omega) (by omega) (by omega) (by omega)).1, rfl, rfl⟩
end Go.Proofs.YtcghpepighboaaaDoor
