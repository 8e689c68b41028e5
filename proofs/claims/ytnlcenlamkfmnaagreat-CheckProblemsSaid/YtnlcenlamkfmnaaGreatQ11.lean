/- CheckProblems. -/
import Derived.Test.YtnlcenlamkfmnaaGreatQ10
import Derived.Test.YtnlcenlamkfmnaaGreatY1
set_option linter.unusedSimpArgs false
set_option linter.unusedVariables false
set_option maxRecDepth 100000
namespace Go.Proofs.YtnlcenlamkfmnaaGreat
theorem BK.of_zero {c : Nat} {e : Ex} (h : zeroX e = true) (hb : Bd e) : BK c e := by
  have h0 : e.nk = 0 := by
    simp [zeroX] at h
    exact h.2.2.2.2.2.2
  cases hb with
  | nil => exact .nil
  | mk hb _ => exact .mk hb (by have : _ = 0 := h0; simp only [Ex.nk] at this; omega) (fun i hi => by have : _ = 0 := h0; simp only [Ex.nk] at this; omega)
theorem entsS_ne {n : Nat} {f : Nat → En} (h : entsS n f = true) : n ≤ 64 := by
  unfold entsS at h
  simp only [Bool.and_eq_true, decide_eq_true_eq] at h
  exact h.1.2
theorem GD.dk {hh : Nat} {d : Df} (h : GD hh d) : DK 3 d := by
  have hd := h.df
  have hne : d.ne ≤ 64 ∧ (zeroX d.body = true ∨ validS 32 d.body = true) := by
    unfold defS at hd
    repeat' split at hd
    all_goals first
      | cases hd; done
      | (simp only [Bool.and_eq_true, decide_eq_true_eq] at hd
         first
           | exact ⟨by omega, .inl hd.2.2.2.1⟩
           | exact ⟨by omega, .inr hd.2.2.2.1⟩
           | exact ⟨entsS_ne hd.2.2.1, .inl hd.2.2.2.1⟩)
  refine ⟨h.bd.nm, h.bd.ef, by omega, ?_, h.bd.st⟩
  rcases hne.2 with h2 | h2
  · exact BK.of_zero h2 h.bd.body
  · exact BK.of_valid 32 _ h2 h.bd.body
set_option maxHeartbeats 1000000 in
theorem problems_c (nm : ByteArray) (l : List Df) (hs : nm.size ≤ 9223372036854775807) (hb : ∀ d, d ∈ l → BdD d) : PureC G.P 7 [vA nm l] (fun r => r = vb true) := by
  have c1 := check_c nm l hs hb
  have c2 := check20_c nm l hs hb
  have hlen : (chkL nm l).1.length ≤ 128 := by
    unfold chkL
    split
    · rename_i h
      unfold agrS at h
      simp only [Bool.and_eq_true, decide_eq_true_eq] at h
      have h1 := probS_len l l.length
      have h2 := h.2.1
      show (probS l l.length).length ≤ 128
      omega
    · show ([] : List (Int × Int)).length ≤ 128
      simp
  obtain ⟨X, hX⟩ : ∃ X, X = chkL nm l := ⟨_, rfl⟩
  rw [← hX] at c1 c2 hlen
  refine pure_of (G := G.toPg) (fn := Tryz.f7) Tryz.func7 rfl rfl rfl ?_; intro Γ hk
  repeat' (first | refine yo ?_ ?_ | refine yw ?_ ?_ | refine yk ?_ ?_ | exact trivial | with_reducible refine wA ?_ ?_ | refine ys ?_ ?_ | refine xs_done ?_ | refine yl ?_ ?_ | (refine pop_callc [] rfl rfl rfl rfl rfl rfl (fun _ h => by cases h) (c1) (args_cl _ rfl) ?_; rintro _ rfl) | (refine pop_callc [] rfl rfl rfl rfl rfl rfl (fun _ h => by cases h) (c2) (args_cl _ rfl) ?_; rintro _ rfl) | refine w8 ?_ | refine w9 ?_ | refine w1 ?_ | refine w2 ?_ | refine w3 ?_ | refine w4 ?_ | refine w5 ?_ | refine w6 ?_ | refine w7 ?_ | refine yo0 ?_ ?_ | refine yw0 ?_ ?_ | exact qq | fail)
  refine pcond_n rfl (by simp) ?_
  repeat' (first | refine yo ?_ ?_ | refine yw ?_ ?_ | refine yk ?_ ?_ | exact trivial | with_reducible refine wA ?_ ?_ | refine ys ?_ ?_ | refine xs_done ?_ | refine yl ?_ ?_ | refine w8 ?_ | refine w9 ?_ | refine w1 ?_ | refine w2 ?_ | refine w3 ?_ | refine w4 ?_ | refine w5 ?_ | refine w6 ?_ | refine w7 ?_ | refine yo0 ?_ ?_ | refine yw0 ?_ ?_ | exact qq | fail)
  refine pcan (st' := ⟨[(3, vPr X.1), (5, vPr X.1), (7, vi ((0 : Nat) : Int))], []⟩) (can_rowsv [] (k0_sel hk rfl) rfl .nil tmq) ?_
  refine ploop (fun q st => ∃ i : Nat, i ≤ X.1.length ∧ q = X.1.length - i ∧ st = ⟨[(3, vPr X.1), (5, vPr X.1), (7, vi i)], []⟩) X.1.length ⟨0, by omega, by omega, rfl⟩ ?_
  rintro _ _ ⟨i, hi, rfl, rfl⟩
  repeat' (first | refine yo ?_ ?_ | refine yw ?_ ?_ | refine yk ?_ ?_ | exact trivial | with_reducible refine wA ?_ ?_ | refine ys ?_ ?_ | refine xs_done ?_ | refine yl ?_ ?_ | refine w8 ?_ | refine w9 ?_ | refine w1 ?_ | refine w2 ?_ | refine w3 ?_ | refine w4 ?_ | refine w5 ?_ | refine w6 ?_ | refine w7 ?_ | refine yo0 ?_ ?_ | refine yw0 ?_ ?_ | exact qq | fail)
  refine pcond rfl ?_ ?_ <;> intro hc <;> simp at hc
  · repeat' (first | refine yo ?_ ?_ | refine yw ?_ ?_ | refine yk ?_ ?_ | exact trivial | with_reducible refine wA ?_ ?_ | refine ys ?_ ?_ | refine xs_done ?_ | refine yl ?_ ?_ | refine xs_start (id := 8) true [.take 0, .take 1, .take 2, .take 3, .take 4, .take 5, .take 6, .take 7, .take 8] 0 rfl rfl (by kernel_rfl) ?_ | refine w8 ?_ | refine w9 ?_ | refine w1 ?_ | refine w2 ?_ | refine w3 ?_ | refine w4 ?_ | refine w5 ?_ | refine w6 ?_ | refine w7 ?_ | refine yo0 ?_ ?_ | refine yw0 ?_ ?_ | exact qq | fail)
    refine pcond_n rfl (by simp) ?_
    repeat' (first | refine yo ?_ ?_ | refine yw ?_ ?_ | refine yk ?_ ?_ | exact trivial | with_reducible refine wA ?_ ?_ | refine ys ?_ ?_ | refine xs_done ?_ | refine yl ?_ ?_ | refine w8 ?_ | refine w9 ?_ | refine w1 ?_ | refine w2 ?_ | refine w3 ?_ | refine w4 ?_ | refine w5 ?_ | refine w6 ?_ | refine w7 ?_ | refine yo0 ?_ ?_ | refine yw0 ?_ ?_ | exact qq | fail)
    rw [show IntKind.i64.wrap ((i : Int) + 1) = ((i + 1 : Nat) : Int) from w64 (by omega) (by omega)]
    exact kloop_next (st' := ⟨[(3, vPr X.1), (5, vPr X.1), (7, vi ((i + 1 : Nat) : Int))], []⟩) (X.1.length - (i + 1)) (can_rowsv [] (k0_sel hk rfl) rfl .nil tmq) (by omega) ⟨i + 1, by omega, rfl, rfl⟩
  · repeat' (first | refine yo ?_ ?_ | refine yw ?_ ?_ | refine yk ?_ ?_ | exact trivial | with_reducible refine wA ?_ ?_ | refine ys ?_ ?_ | refine xs_done ?_ | refine yl ?_ ?_ | refine w8 ?_ | refine w9 ?_ | refine w1 ?_ | refine w2 ?_ | refine w3 ?_ | refine w4 ?_ | refine w5 ?_ | refine w6 ?_ | refine w7 ?_ | refine yo0 ?_ ?_ | refine yw0 ?_ ?_ | exact qq | fail)
    exact kretv rfl ⟨trivial, trivial⟩ rfl rfl
set_option maxHeartbeats 8000000 in
theorem probl_c (n : Nat) (g : Nat → Int) (hn : n ≤ 9223372036854775807) : PureC G.P 3 [.vsl n 1 (tI g)] (fun r => r = vb true) := by
  refine pure_of (G := G.toPg) (fn := Tryz.f3) Tryz.func3 rfl rfl rfl ?_; intro Γ hk
  repeat' (first | refine yo ?_ ?_ | refine yw ?_ ?_ | refine yk ?_ ?_ | exact trivial | with_reducible refine wA ?_ ?_ | refine ys ?_ ?_ | refine xs_done ?_ | refine yl ?_ ?_ | refine w8 ?_ | refine w9 ?_ | refine w1 ?_ | refine w2 ?_ | refine w3 ?_ | refine w4 ?_ | refine w5 ?_ | refine w6 ?_ | refine w7 ?_ | refine yo0 ?_ ?_ | refine yw0 ?_ ?_ | exact qq | fail)
  refine pop_rowsc [] rfl rfl rfl rfl rfl rfl .nil (new_c n g) (by exact ⟨PEq.refl _, trivial⟩) ?_
  rintro r rows ⟨rfl, rfl⟩
  refine ⟨_, _, rfl, ⟨tape_cl _ _ _, trivial⟩, rfl, ?_⟩
  repeat' (first | refine yo ?_ ?_ | refine yw ?_ ?_ | refine yk ?_ ?_ | exact trivial | with_reducible refine wA ?_ ?_ | refine ys ?_ ?_ | refine xs_done ?_ | refine yl ?_ ?_ | refine w8 ?_ | refine w9 ?_ | refine w1 ?_ | refine w2 ?_ | refine w3 ?_ | refine w4 ?_ | refine w5 ?_ | refine w6 ?_ | refine w7 ?_ | refine yo0 ?_ ?_ | refine yw0 ?_ ?_ | exact qq | fail)
  refine pop_rowsd [0] rfl rfl rfl rfl rfl rfl (by exact .cons rfl trivial (RowEq.cl (tape_cl _ _ _)) .nil) (agreement4_r 2 (by omega) true n g 0 hn (by omega) (by omega)) (by exact ⟨PEq.refl _, PEq.refl _, PEq.refl _, trivial⟩) ?_
  rintro r rows ⟨at_, k, l, b1, b2, hlk, hA, rfl, rfl⟩
  refine ⟨[tapeRow n g at_, rA (k + 1) 2, oRow cD 21 (k + 1) (lF dD l)], _, .agg 2 (nthP [vs n_metal, .lsl 2 0 (k + 1)]), ⟨RowEq.cl (tape_cl _ _ _), rA_eq rfl, RowEq.cl (o_cl cD_cl _ _ _), trivial⟩, rfl, peqA rfl, ?_⟩
  have hk30 := hA.l1
  have hDK : ∀ d, d ∈ l → DK 3 d := fun d hd => (hA.all d hd).dk
  repeat' (first | refine yo ?_ ?_ | refine yw ?_ ?_ | refine yk ?_ ?_ | exact trivial | with_reducible refine wA ?_ ?_ | refine ys ?_ ?_ | refine xs_done ?_ | refine yl ?_ ?_ | refine w8 ?_ | refine w9 ?_ | refine w1 ?_ | refine w2 ?_ | refine w3 ?_ | refine w4 ?_ | refine w5 ?_ | refine w6 ?_ | refine w7 ?_ | refine yo0 ?_ ?_ | refine yw0 ?_ ?_ | exact qq | fail)
  have hDa : ArgOk [tapeRow n g at_, rA (k + 1) 2, oRow cD 21 (k + 1) (lF dD l), (⟨.own, true, 1, 2, fun _ => nthP [vs n_metal, .lsl 2 0 (k + 1)]⟩ : Row)] [2] (.lsl 2 0 (k + 1)) (vDs l) := by rw [vDs, hlk]; exact arg_o (s := .own) cD_cl rfl trivial (List.Mem.head _)
  refine ocanQ (st' := ⟨[(3, .ptr 0 0 0), (4, .ptr 1 0 0), (10, .ptr 0 0 0), (11, vA n_metal l)], [tapeRow n g at_, rAg18 n_metal l]⟩) ((can_frzb [2] 3 (fun _ => nthP [vs n_metal, vDs l]) (tm := [(3, .ptr 0 0 0), (4, .ptr 3 0 0), (10, .ptr 0 0 0), (11, vA n_metal l)]) (by intro l hl; rw [show Γ.k0 = 0 from hk]; exact Nat.zero_le _) rfl rfl rfl (fun i hi j hj => by
    have hj : j < 2 := hj
    rcases (by omega : j = 0 ∨ j = 1) with rfl | rfl
    · exact argVal
    · exact hDa) (by exact ⟨.inl rfl, .inl rfl, .inl rfl, .inr (argAgr hDa), trivial⟩)).trans (can_rowsv [0, 3] (k0_sel (show Γ.k0 = 0 from hk) rfl) rfl (.cons rfl (RowEq.cl (tape_cl _ _ _)) (.cons rfl rqq .nil)) (by exact ⟨PEq.refl _, PEq.refl _, PEq.refl _, PEq.cl _ (clB_spec _ rfl), trivial⟩))) ?_
  have cA := spoilA_t 3 (by omega) (by omega) n_metal l (by decide) (by omega) hDK
  have p0 := problems_c n_metal l (by decide) (fun d hd => (hDK d hd).bd (by omega))
  repeat' (first | refine yo ?_ ?_ | refine yw ?_ ?_ | refine yk ?_ ?_ | exact trivial | with_reducible refine wA ?_ ?_ | refine ys ?_ ?_ | refine xs_done ?_ | refine yl ?_ ?_ | (refine t1 cA hn ?_; rintro at_ _ b1 b2 ⟨nm1, l1, rfl, hs1, hl1, hD1⟩) | (refine t2 cA hn ?_; rintro at_ _ b1 b2 ⟨nm1, l1, rfl, hs1, hl1, hD1⟩) | (refine t3 cA hn ?_; rintro at_ _ b1 b2 ⟨nm1, l1, rfl, hs1, hl1, hD1⟩) | refine z1 p0 ?_ | refine z2 p0 ?_ | refine z3 p0 ?_ | refine z4 p0 ?_ | refine z5 p0 ?_ | refine w8 ?_ | refine w9 ?_ | refine w1 ?_ | refine w2 ?_ | refine w3 ?_ | refine w4 ?_ | refine w5 ?_ | refine w6 ?_ | refine w7 ?_ | refine yo0 ?_ ?_ | refine yw0 ?_ ?_ | exact qq | fail)
  have p1 := problems_c nm1 l1 hs1 (fun d hd => (hD1 d hd).bd (by omega))
  have cB := spoilA_t 4 (by omega) (by omega) nm1 l1 hs1 (by omega) hD1
  repeat' (first | refine yo ?_ ?_ | refine yw ?_ ?_ | refine yk ?_ ?_ | exact trivial | with_reducible refine wA ?_ ?_ | refine ys ?_ ?_ | refine xs_done ?_ | refine yl ?_ ?_ | (refine pop_opt 20 rfl rfl ?_; refine pop_opt 21 rfl rfl ?_; refine pop_unguard rfl rfl ?_) | (refine t1 cB hn ?_; rintro at_ _ b1 b2 ⟨nm2, l2, rfl, hs2, hl2, hD2⟩) | (refine t2 cB hn ?_; rintro at_ _ b1 b2 ⟨nm2, l2, rfl, hs2, hl2, hD2⟩) | (refine t3 cB hn ?_; rintro at_ _ b1 b2 ⟨nm2, l2, rfl, hs2, hl2, hD2⟩) | refine z1 p0 ?_ | refine z2 p0 ?_ | refine z3 p0 ?_ | refine z4 p0 ?_ | refine z5 p0 ?_ | refine z1 p1 ?_ | refine z2 p1 ?_ | refine z3 p1 ?_ | refine z4 p1 ?_ | refine z5 p1 ?_ | refine w8 ?_ | refine w9 ?_ | refine w1 ?_ | refine w2 ?_ | refine w3 ?_ | refine w4 ?_ | refine w5 ?_ | refine w6 ?_ | refine w7 ?_ | refine yo0 ?_ ?_ | refine yw0 ?_ ?_ | exact qq | fail)
  have p2 := problems_c nm2 l2 hs2 (fun d hd => (hD2 d hd).bd (by omega))
  repeat' (first | refine yo ?_ ?_ | refine yw ?_ ?_ | refine yk ?_ ?_ | exact trivial | with_reducible refine wA ?_ ?_ | refine ys ?_ ?_ | refine xs_done ?_ | refine yl ?_ ?_ | (refine pop_opt 26 rfl rfl ?_; refine pop_opt 27 rfl rfl ?_; refine pop_unguard rfl rfl ?_) | (refine t1 cA hn ?_; rintro at_ _ b1 b2 ⟨nm3, l3, rfl, hs3, hl3, hD3⟩) | (refine t2 cA hn ?_; rintro at_ _ b1 b2 ⟨nm3, l3, rfl, hs3, hl3, hD3⟩) | (refine t3 cA hn ?_; rintro at_ _ b1 b2 ⟨nm3, l3, rfl, hs3, hl3, hD3⟩) | refine z1 p2 ?_ | refine z2 p2 ?_ | refine z3 p2 ?_ | refine z4 p2 ?_ | refine z5 p2 ?_ | refine w8 ?_ | refine w9 ?_ | refine w1 ?_ | refine w2 ?_ | refine w3 ?_ | refine w4 ?_ | refine w5 ?_ | refine w6 ?_ | refine w7 ?_ | refine yo0 ?_ ?_ | refine yw0 ?_ ?_ | exact qq | fail)
  have p3 := problems_c nm3 l3 hs3 (fun d hd => (hD3 d hd).bd (by omega))
  repeat' (first | refine yo ?_ ?_ | refine yw ?_ ?_ | refine yk ?_ ?_ | exact trivial | with_reducible refine wA ?_ ?_ | refine ys ?_ ?_ | refine xs_done ?_ | refine yl ?_ ?_ | refine z1 p3 ?_ | refine z2 p3 ?_ | refine z3 p3 ?_ | refine z4 p3 ?_ | refine z5 p3 ?_ | refine z1 sane20_c ?_ | refine z2 sane20_c ?_ | refine z3 sane20_c ?_ | refine z4 sane20_c ?_ | refine z5 sane20_c ?_ | refine w8 ?_ | refine w9 ?_ | refine w1 ?_ | refine w2 ?_ | refine w3 ?_ | refine w4 ?_ | refine w5 ?_ | refine w6 ?_ | refine w7 ?_ | refine yo0 ?_ ?_ | refine yw0 ?_ ?_ | exact qq | fail)
  refine xdone ?_
  exact kretv rfl ⟨trivial, trivial⟩ rfl rfl
theorem problems_walk (v : Value) (l : List Int) (w : World) (h : IntsAt w v l) : Calls G.P 3 #[v] w fun e w' => e = .returned (.bool true) ∧ Ext w w' := by
  have hl : l.length ≤ 9223372036854775807 := by obtain ⟨_, _, _, _, h, _⟩ := h; exact h
  exact law_of (vs := [v]) (probl_c l.length _ hl) ⟨h.rel _, trivial⟩
end Go.Proofs.YtnlcenlamkfmnaaGreat
