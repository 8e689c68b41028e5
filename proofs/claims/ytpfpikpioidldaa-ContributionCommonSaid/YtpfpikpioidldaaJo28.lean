/- paygen: employments; payrolllaw28: ContributionJoint. -/
import Derived.Test.YtpfpikpioidldaaJn2
import Derived.Test.YtpfpikpioidldaaAw28
import Derived.Test.YtpfpikpioidldaaBrg28
set_option linter.unusedSimpArgs false
set_option linter.unusedVariables false
set_option maxRecDepth 100000
namespace Go.Proofs.Ytpfpikpioidldaa
/-- an employment that a deck yields -/
structure EGd (e : Nat) (x : Emp) : Prop where
  n : x.n = e
  w : ∀ a, a < x.n → 0 ≤ x.e a ∧ x.e a ≤ 1000000
  b0 : 0 ≤ x.b
  b1 : x.b ≤ 599999
theorem lF_mem {l : List Emp} {i : Nat} (hi : i < l.length) : lF dM l i ∈ l := by
  unfold lF; rw [List.getD_eq_getElem?_getD, List.getElem?_eq_getElem hi]; exact List.getElem_mem hi
set_option maxHeartbeats 2000000 in
theorem demps_r (n : Nat) (g : Nat → Int) (at_ c e : Int) (hn : n ≤ 9223372036854775807) (h1 : 0 ≤ at_) (h2 : at_ + 110000 ≤ 1000000000) (c0 : 0 ≤ c) (c1 : c ≤ 20) (e0 : 0 ≤ e) (e1 : e ≤ 1000) : RowsC G.P 31 [tapeRow n g at_] [.ptr 0 0 0, vi c, vi e] (fun r rows => ∃ (at' : Int) (l : List Emp), 0 ≤ at' ∧ at' ≤ at_ + 110000 ∧ (l.length : Int) = c ∧ (∀ x, x ∈ l → EGd e.toNat x) ∧ ((l = [] ∧ r = .val (.slice none 0 0) ∧ rows = [tapeRow n g at']) ∨ (0 < l.length ∧ r = .lsl 1 0 l.length ∧ rows = [tapeRow n g at', oRow cM 2 l.length (lF dM l)]))) := by
  refine rows_of (G := G.toPg) (fn := Try.f31) Try.func31 rfl rfl rfl ?_; intro Γ hk
  replace hk : Γ.k0 = 1 := hk
  repeat' (first | refine xo 4000 rfl ?_ ?_ | refine xw 4000 rfl ?_ ?_ | refine xk 4000 rfl ?_ ?_ | exact trivial | ((with_reducible (show AllP (_ :: _))); refine And.intro ?_ ?_) | refine xs rfl ?_ ?_ | refine xs_done ?_ | refine pcond_t rfl ?_ | refine pcond_f rfl ?_ | refine kround_exit ?_ | refine kround_ret ?_ | refine kround_next ?_ | refine kloop_ret ?_ | refine kloop_exit ?_ | refine kcut_ret ?_ | refine kcut_exit ?_ | refine xo0 4000 rfl ?_ ?_ | refine xw0 4000 rfl ?_ ?_ | exact qq | fail)
  refine pcan (can_virt (vRow cM 2 0 (lF dM [])) rfl) ?_
  refine pcan (st' := ⟨[(0, .ptr 0 0 0), (1, vi c), (2, vi e), (7, slP 0 1), (8, vi 0)], [tapeRow n g at_, vRow cM 2 0 (lF dM [])]⟩) (can_rowsv [0, 1] (k0_sel hk rfl) rfl (.cons rfl rqq (.cons rfl (RowEq.cl (v_cl cM_cl _ _ _)) .nil)) tmq) ?_
  refine ploop (fun q st => ∃ (at' : Int) (k : Nat) (l : List Emp), 0 ≤ at' ∧ at' ≤ at_ + 5003 * k ∧ (k : Int) ≤ c ∧ l.length = k ∧ (∀ x, x ∈ l → EGd e.toNat x) ∧ q = c.toNat - k ∧ st = ⟨[(0, .ptr 0 0 0), (1, vi c), (2, vi e), (7, slP k 1), (8, vi k)], [tapeRow n g at', vRow cM 2 k (lF dM l)]⟩) c.toNat ⟨at_, 0, [], h1, by omega, by omega, rfl, by simp, rfl, rfl⟩ ?_
  rintro _ _ ⟨at', k, l, b1, b2, hkc, hlk, hl, rfl, rfl⟩
  repeat' (first | refine xo 4000 rfl ?_ ?_ | refine xw 4000 rfl ?_ ?_ | refine xk 4000 rfl ?_ ?_ | exact trivial | ((with_reducible (show AllP (_ :: _))); refine And.intro ?_ ?_) | refine xs rfl ?_ ?_ | refine xs_done ?_ | refine pcond_t rfl ?_ | refine pcond_f rfl ?_ | refine kround_exit ?_ | refine kround_ret ?_ | refine kround_next ?_ | refine kloop_ret ?_ | refine kloop_exit ?_ | refine kcut_ret ?_ | refine kcut_exit ?_ | refine xo0 4000 rfl ?_ ?_ | refine xw0 4000 rfl ?_ ?_ | exact qq | fail)
  refine pcond rfl ?_ ?_ <;> intro hc <;> simp at hc
  · have hw : IntKind.i64.wrap ((k : Int) + 1) = ((k + 1 : Nat) : Int) := w64 (by omega) (by omega)
    have hlen : ∀ o : Emp, (l ++ [o]).length = k + 1 := fun o => by rw [List.length_append, hlk]; rfl
    have hsn : ∀ o : Emp, EGd e.toNat o → ∀ x, x ∈ l ++ [o] → EGd e.toNat x := fun o ho x hx => by
      rcases List.mem_append.1 hx with hx | hx
      · exact hl x hx
      · have : x = o := by simpa using hx
        subst this; exact ho
    rcases k with _ | k
    · repeat' (first | refine xo 4000 rfl ?_ ?_ | refine xw 4000 rfl ?_ ?_ | refine xk 4000 rfl ?_ ?_ | exact trivial | ((with_reducible (show AllP (_ :: _))); refine And.intro ?_ ?_) | refine xs rfl ?_ ?_ | refine xs_done ?_ | refine pcond_t rfl ?_ | refine pcond_f rfl ?_ | refine kround_exit ?_ | refine kround_ret ?_ | refine kround_next ?_ | refine kloop_ret ?_ | refine kloop_exit ?_ | refine kcut_ret ?_ | refine kcut_exit ?_ | refine xo0 4000 rfl ?_ ?_ | refine xw0 4000 rfl ?_ ?_ | exact qq | fail)
      refine pop_dek (G := G) rfl rfl rfl rfl rfl rfl rfl rfl (fun _ => rfl) (dbases_t e (by omega)) hn (by omega) (by omega) rfl rfl ?_; rintro at_ _ b1 b2 ⟨kb, w, rfl, hkb, hw2⟩
      repeat' (first | refine xo 4000 rfl ?_ ?_ | refine xw 4000 rfl ?_ ?_ | refine xk 4000 rfl ?_ ?_ | exact trivial | ((with_reducible (show AllP (_ :: _))); refine And.intro ?_ ?_) | refine xs rfl ?_ ?_ | refine xs_done ?_ | refine pcond_t rfl ?_ | refine pcond_f rfl ?_ | refine kround_exit ?_ | refine kround_ret ?_ | refine kround_next ?_ | refine kloop_ret ?_ | refine kloop_exit ?_ | refine kcut_ret ?_ | refine kcut_exit ?_ | refine xo0 4000 rfl ?_ ?_ | refine xw0 4000 rfl ?_ ?_ | exact qq | fail)
      refine pop_dek (G := G) rfl rfl rfl rfl rfl rfl rfl rfl (fun _ => rfl) (dsmall_t) hn (by omega) (by omega) rfl rfl ?_; rintro at_ _ b1 b2 ⟨sm, rfl, sm0, sm1⟩
      repeat' (first | refine xo 4000 rfl ?_ ?_ | refine xw 4000 rfl ?_ ?_ | refine xk 4000 rfl ?_ ?_ | exact trivial | ((with_reducible (show AllP (_ :: _))); refine And.intro ?_ ?_) | refine xs rfl ?_ ?_ | refine xs_done ?_ | refine pcond_t rfl ?_ | refine pcond_f rfl ?_ | refine kround_exit ?_ | refine kround_ret ?_ | refine kround_next ?_ | refine kloop_ret ?_ | refine kloop_exit ?_ | refine kcut_ret ?_ | refine kcut_exit ?_ | refine xo0 4000 rfl ?_ ?_ | refine xw0 4000 rfl ?_ ?_ | exact qq | fail)
      refine pop_dekl (G := G) rfl rfl rfl rfl rfl rfl rfl rfl rfl rfl rfl (by omega) rfl (fun _ => rfl) rfl (dpick_t _ _ rfl (by decide) (by decide)) hn (by omega) (by omega) ?_; rintro at_ _ b1 b2 ⟨b, rfl, hb⟩
      simp only [unL, List.mem_cons, List.not_mem_nil, or_false] at hb
      have hb2 : 0 ≤ b ∧ b ≤ 599999 := by omega
      repeat' (first | refine xo 4000 rfl ?_ ?_ | refine xw 4000 rfl ?_ ?_ | refine xk 4000 rfl ?_ ?_ | exact trivial | ((with_reducible (show AllP (_ :: _))); refine And.intro ?_ ?_) | refine xs rfl ?_ ?_ | refine xs_done ?_ | refine pcond_t rfl ?_ | refine pcond_f rfl ?_ | refine kround_exit ?_ | refine kround_ret ?_ | refine kround_next ?_ | refine kloop_ret ?_ | refine kloop_exit ?_ | refine kcut_ret ?_ | refine kcut_exit ?_ | refine xo0 4000 rfl ?_ ?_ | refine xw0 4000 rfl ?_ ?_ | exact qq | fail)
      rw [hw]
      exact kloop_next (st' := ⟨[(0, .ptr 0 0 0), (1, vi c), (2, vi e), (7, slP (0 + 1) 1), (8, vi ((0 + 1 : Nat) : Int))], [tapeRow n g at_, vRow cM 2 (0 + 1) (lF dM (l ++ [⟨kb, w, b⟩]))]⟩) (c.toNat - (0 + 1)) (can_rowsv [0, 4] (k0_sel hk rfl) rfl (.cons rfl rqq (.cons rfl (app_l0 cM_cl (by assumption) rfl) .nil)) tmq) (by omega) ⟨_, 0 + 1, _, by omega, by omega, by omega, hlen _, hsn _ ⟨hkb, hw2, hb2.1, hb2.2⟩, rfl, rfl⟩
    · repeat' (first | refine xo 4000 rfl ?_ ?_ | refine xw 4000 rfl ?_ ?_ | refine xk 4000 rfl ?_ ?_ | exact trivial | ((with_reducible (show AllP (_ :: _))); refine And.intro ?_ ?_) | refine xs rfl ?_ ?_ | refine xs_done ?_ | refine pcond_t rfl ?_ | refine pcond_f rfl ?_ | refine kround_exit ?_ | refine kround_ret ?_ | refine kround_next ?_ | refine kloop_ret ?_ | refine kloop_exit ?_ | refine kcut_ret ?_ | refine kcut_exit ?_ | refine xo0 4000 rfl ?_ ?_ | refine xw0 4000 rfl ?_ ?_ | exact qq | fail)
      refine pop_dek (G := G) rfl rfl rfl rfl rfl rfl rfl rfl (fun _ => rfl) (dbases_t e (by omega)) hn (by omega) (by omega) rfl rfl ?_; rintro at_ _ b1 b2 ⟨kb, w, rfl, hkb, hw2⟩
      repeat' (first | refine xo 4000 rfl ?_ ?_ | refine xw 4000 rfl ?_ ?_ | refine xk 4000 rfl ?_ ?_ | exact trivial | ((with_reducible (show AllP (_ :: _))); refine And.intro ?_ ?_) | refine xs rfl ?_ ?_ | refine xs_done ?_ | refine pcond_t rfl ?_ | refine pcond_f rfl ?_ | refine kround_exit ?_ | refine kround_ret ?_ | refine kround_next ?_ | refine kloop_ret ?_ | refine kloop_exit ?_ | refine kcut_ret ?_ | refine kcut_exit ?_ | refine xo0 4000 rfl ?_ ?_ | refine xw0 4000 rfl ?_ ?_ | exact qq | fail)
      refine pop_dek (G := G) rfl rfl rfl rfl rfl rfl rfl rfl (fun _ => rfl) (dsmall_t) hn (by omega) (by omega) rfl rfl ?_; rintro at_ _ b1 b2 ⟨sm, rfl, sm0, sm1⟩
      repeat' (first | refine xo 4000 rfl ?_ ?_ | refine xw 4000 rfl ?_ ?_ | refine xk 4000 rfl ?_ ?_ | exact trivial | ((with_reducible (show AllP (_ :: _))); refine And.intro ?_ ?_) | refine xs rfl ?_ ?_ | refine xs_done ?_ | refine pcond_t rfl ?_ | refine pcond_f rfl ?_ | refine kround_exit ?_ | refine kround_ret ?_ | refine kround_next ?_ | refine kloop_ret ?_ | refine kloop_exit ?_ | refine kcut_ret ?_ | refine kcut_exit ?_ | refine xo0 4000 rfl ?_ ?_ | refine xw0 4000 rfl ?_ ?_ | exact qq | fail)
      refine pop_dekl (G := G) rfl rfl rfl rfl rfl rfl rfl rfl rfl rfl rfl (by omega) rfl (fun _ => rfl) rfl (dpick_t _ _ rfl (by decide) (by decide)) hn (by omega) (by omega) ?_; rintro at_ _ b1 b2 ⟨b, rfl, hb⟩
      simp only [unL, List.mem_cons, List.not_mem_nil, or_false] at hb
      have hb2 : 0 ≤ b ∧ b ≤ 599999 := by omega
      repeat' (first | refine xo 4000 rfl ?_ ?_ | refine xw 4000 rfl ?_ ?_ | refine xk 4000 rfl ?_ ?_ | exact trivial | ((with_reducible (show AllP (_ :: _))); refine And.intro ?_ ?_) | refine xs rfl ?_ ?_ | refine xs_done ?_ | refine pcond_t rfl ?_ | refine pcond_f rfl ?_ | refine kround_exit ?_ | refine kround_ret ?_ | refine kround_next ?_ | refine kloop_ret ?_ | refine kloop_exit ?_ | refine kcut_ret ?_ | refine kcut_exit ?_ | refine xo0 4000 rfl ?_ ?_ | refine xw0 4000 rfl ?_ ?_ | exact qq | fail)
      rw [hw]
      exact kloop_next (st' := ⟨[(0, .ptr 0 0 0), (1, vi c), (2, vi e), (7, slP (k + 1 + 1) 1), (8, vi ((k + 1 + 1 : Nat) : Int))], [tapeRow n g at_, vRow cM 2 (k + 1 + 1) (lF dM (l ++ [⟨kb, w, b⟩]))]⟩) (c.toNat - (k + 1 + 1)) (can_rowsv [0, 4] (k0_sel hk rfl) rfl (.cons rfl rqq (.cons rfl (app_l cM_cl (by assumption) rfl rfl) .nil)) tmq) (by omega) ⟨_, k + 1 + 1, _, by omega, by omega, by omega, hlen _, hsn _ ⟨hkb, hw2, hb2.1, hb2.2⟩, rfl, rfl⟩
  · have hck : (k : Int) = c := by omega
    rcases k with _ | k
    · repeat' (first | refine xo 4000 rfl ?_ ?_ | refine xw 4000 rfl ?_ ?_ | refine xk 4000 rfl ?_ ?_ | exact trivial | ((with_reducible (show AllP (_ :: _))); refine And.intro ?_ ?_) | refine xs rfl ?_ ?_ | refine xs_done ?_ | refine pcond_t rfl ?_ | refine pcond_f rfl ?_ | refine kround_exit ?_ | refine kround_ret ?_ | refine kround_next ?_ | refine kloop_ret ?_ | refine kloop_exit ?_ | refine kcut_ret ?_ | refine kcut_exit ?_ | refine xo0 4000 rfl ?_ ?_ | refine xw0 4000 rfl ?_ ?_ | exact qq | fail)
      refine xdone ?_
      have : l = [] := List.length_eq_zero_iff.1 hlk
      subst this
      exact kretr (st' := ⟨[(6, .val (.slice none 0 0))], [tapeRow n g at']⟩) (can_rowsv [0] (k0_sel hk rfl) rfl (by (repeat (refine SelV.cons rfl rqq ?_)); exact SelV.nil) tmq) rfl ⟨trivial, trivial⟩ rfl ⟨_, [], b1, by omega, by simpa using hck, hl, .inl ⟨rfl, rfl, rfl⟩⟩
    · repeat' (first | refine xo 4000 rfl ?_ ?_ | refine xw 4000 rfl ?_ ?_ | refine xk 4000 rfl ?_ ?_ | exact trivial | ((with_reducible (show AllP (_ :: _))); refine And.intro ?_ ?_) | refine xs rfl ?_ ?_ | refine xs_done ?_ | refine pcond_t rfl ?_ | refine pcond_f rfl ?_ | refine kround_exit ?_ | refine kround_ret ?_ | refine kround_next ?_ | refine kloop_ret ?_ | refine kloop_exit ?_ | refine kcut_ret ?_ | refine kcut_exit ?_ | refine xo0 4000 rfl ?_ ?_ | refine xw0 4000 rfl ?_ ?_ | exact qq | fail)
      refine xdone ?_
      refine kretr (st' := ⟨[(6, .lsl 1 0 (k + 1))], [tapeRow n g at', oRow cM 2 (k + 1) (lF dM l)]⟩) (can_rowsv [0, 1] (k0_sel hk rfl) rfl (.cons rfl rqq (.cons rfl (RowEq.cl (o_cl cM_cl _ _ _)) .nil)) tmq) rfl ⟨trivial, trivial⟩ rfl ⟨_, l, b1, by omega, by rw [hlk]; exact hck, hl, .inr ⟨by omega, ?_, ?_⟩⟩
      · rw [hlk]; rfl
      · rw [hlk]
theorem joi_len {x : Sch} {m : Nat} {g : Nat → Emp} : (joiS x m g).1.1 ≤ 8 := by
  unfold joiS
  split
  · simp
  · split
    · simp
    · rename_i h1 h2
      have hJ := je_ok (show jeS m g = 0 by simpa using h2)
      have := hJ.m8
      unfold divS
      split
      · simp
      · split <;> (simp only; omega)
def twoE (l l2 : List Emp) (a : Nat) : Emp := if a < l.length then lF dM l a else lF dM l2 (a - l.length)
theorem two_cells {l l2 : List Emp} {F : Nat → Nat → PV} (hF : F = appF l.length (fun x => tF cM (lF dM l) (0 + x)) (fun x => tF cM (lF dM l2) (0 + x))) : ∀ a, a < l.length + l2.length → ∀ b, b < 2 → F (0 + a) b = tF cM (twoE l l2) a b ∧ Cl (tF cM (twoE l l2) a b) := by
  intro a ha b hb
  refine ⟨?_, tF_cl cM_cl _ _ _⟩
  rw [hF, Nat.zero_add]
  show _ = nthP (cM (if a < l.length then lF dM l a else lF dM l2 (a - l.length))) b
  unfold tF
  by_cases h : a < l.length
  · rw [appF_lt _ _ h, if_pos h, Nat.zero_add]
  · rw [appF_ge _ _ (by omega), if_neg h, Nat.zero_add]
theorem nilM {mem : List Row} {L : List Nat} : ArgOk mem L (.val (.slice none 0 0)) (vMs 0 (lF dM [])) := argNil
set_option maxHeartbeats 10000000 in
theorem conJoint_law (n : Nat) (g : Nat → Int) (m : Nat) (raw : Nat → Emp) (hn : n ≤ 9223372036854775807) (hm : m ≤ 9223372036854775807) (hrn : ∀ i, i < m → (raw i).n ≤ 9223372036854775807) : PureC G.P 10 [.vsl n 1 (tI g), vMs m raw] (fun r => r = vb true) := by
  refine pure_of (G := G.toPg) (fn := Try.f10) Try.func10 rfl rfl rfl ?_; intro Γ hk
  repeat' (first | refine xo 4000 rfl ?_ ?_ | refine xw 4000 rfl ?_ ?_ | refine xk 4000 rfl ?_ ?_ | exact trivial | ((with_reducible (show AllP (_ :: _))); refine And.intro ?_ ?_) | refine xs rfl ?_ ?_ | refine xs_done ?_ | refine pcond_t rfl ?_ | refine pcond_f rfl ?_ | refine kround_exit ?_ | refine kround_ret ?_ | refine kround_next ?_ | refine kloop_ret ?_ | refine kloop_exit ?_ | refine kcut_ret ?_ | refine kcut_exit ?_ | refine xo0 4000 rfl ?_ ?_ | refine xw0 4000 rfl ?_ ?_ | exact qq | fail)
  refine pcond rfl ?_ ?_ <;> intro hc
  · repeat' (first | refine xo 4000 rfl ?_ ?_ | refine xw 4000 rfl ?_ ?_ | refine xk 4000 rfl ?_ ?_ | exact trivial | ((with_reducible (show AllP (_ :: _))); refine And.intro ?_ ?_) | refine xs rfl ?_ ?_ | refine xs_done ?_ | refine pop_callv rfl rfl rfl rfl rfl (awake_c) rfl rfl rfl ?_ | refine xs_call rfl rfl rfl rfl rfl rfl (awake_c) rfl rfl rfl ?_ | refine xs_one (ch := []) rfl rfl rfl (pst_callv rfl rfl rfl rfl rfl (awake_c) rfl rfl rfl ?_) | refine pop_callgv rfl rfl rfl rfl rfl rfl (fun _ => awake_c) (by first | exact fun h => ⟨h, trivial⟩ | exact fun _ => trivial | exact fun h => ⟨h, h, trivial⟩) rfl rfl rfl ?_ | refine xs_one (ch := []) rfl rfl rfl (pst_callgv rfl rfl rfl rfl rfl rfl (fun _ => awake_c) (by first | exact fun h => ⟨h, trivial⟩ | exact fun _ => trivial | exact fun h => ⟨h, h, trivial⟩) rfl rfl rfl ?_) | refine pcond_t rfl ?_ | refine pcond_f rfl ?_ | refine kround_exit ?_ | refine kround_ret ?_ | refine kround_next ?_ | refine kloop_ret ?_ | refine kloop_exit ?_ | refine kcut_ret ?_ | refine kcut_exit ?_ | refine xo0 4000 rfl ?_ ?_ | refine xw0 4000 rfl ?_ ?_ | exact qq | fail)
    refine xdone ?_
    exact kretv rfl ⟨trivial, trivial⟩ rfl rfl
  · have hm12 : m ≤ 12 := by simp at hc; omega
    repeat' (first | refine xo 4000 rfl ?_ ?_ | refine xw 4000 rfl ?_ ?_ | refine xk 4000 rfl ?_ ?_ | exact trivial | ((with_reducible (show AllP (_ :: _))); refine And.intro ?_ ?_) | refine xs rfl ?_ ?_ | refine xs_done ?_ | refine pcond_t rfl ?_ | refine pcond_f rfl ?_ | refine kround_exit ?_ | refine kround_ret ?_ | refine kround_next ?_ | refine kloop_ret ?_ | refine kloop_exit ?_ | refine kcut_ret ?_ | refine kcut_exit ?_ | refine xo0 4000 rfl ?_ ?_ | refine xw0 4000 rfl ?_ ?_ | exact qq | fail)
    refine pcan (can_sel [0, 1, 5]) ?_
    refine ploop (fun q st => ∃ i : Nat, i ≤ m ∧ q = m - i ∧ st = ⟨[(0, .vsl n 1 (tI g)), (1, vMs m raw), (5, vi i)], []⟩) m ⟨0, by omega, rfl, rfl⟩ ?_
    rintro _ _ ⟨i, hi, rfl, rfl⟩
    repeat' (first | refine xo 4000 rfl ?_ ?_ | refine xw 4000 rfl ?_ ?_ | refine xk 4000 rfl ?_ ?_ | exact trivial | ((with_reducible (show AllP (_ :: _))); refine And.intro ?_ ?_) | refine xs rfl ?_ ?_ | refine xs_done ?_ | refine pcond_t rfl ?_ | refine pcond_f rfl ?_ | refine kround_exit ?_ | refine kround_ret ?_ | refine kround_next ?_ | refine kloop_ret ?_ | refine kloop_exit ?_ | refine kcut_ret ?_ | refine kcut_exit ?_ | refine xo0 4000 rfl ?_ ?_ | refine xw0 4000 rfl ?_ ?_ | exact qq | fail)
    refine pcond rfl ?_ ?_ <;> intro hc2 <;> simp at hc2
    · have hw : IntKind.i64.wrap ((i : Int) + 1) = ((i + 1 : Nat) : Int) := w64 (by omega) (by omega)
      repeat' (first | refine xo 4000 rfl ?_ ?_ | refine xw 4000 rfl ?_ ?_ | refine xk 4000 rfl ?_ ?_ | exact trivial | ((with_reducible (show AllP (_ :: _))); refine And.intro ?_ ?_) | refine xs rfl ?_ ?_ | refine xs_done ?_ | refine pcond_t rfl ?_ | refine pcond_f rfl ?_ | refine kround_exit ?_ | refine kround_ret ?_ | refine kround_next ?_ | refine kloop_ret ?_ | refine kloop_exit ?_ | refine kcut_ret ?_ | refine kcut_exit ?_ | refine xo0 4000 rfl ?_ ?_ | refine xw0 4000 rfl ?_ ?_ | exact qq | fail)
      refine pcond rfl ?_ ?_ <;> intro hc3
      · repeat' (first | refine xo 4000 rfl ?_ ?_ | refine xw 4000 rfl ?_ ?_ | refine xk 4000 rfl ?_ ?_ | exact trivial | ((with_reducible (show AllP (_ :: _))); refine And.intro ?_ ?_) | refine xs rfl ?_ ?_ | refine xs_done ?_ | refine pop_callv rfl rfl rfl rfl rfl (awake_c) rfl rfl rfl ?_ | refine xs_call rfl rfl rfl rfl rfl rfl (awake_c) rfl rfl rfl ?_ | refine xs_one (ch := []) rfl rfl rfl (pst_callv rfl rfl rfl rfl rfl (awake_c) rfl rfl rfl ?_) | refine pop_callgv rfl rfl rfl rfl rfl rfl (fun _ => awake_c) (by first | exact fun h => ⟨h, trivial⟩ | exact fun _ => trivial | exact fun h => ⟨h, h, trivial⟩) rfl rfl rfl ?_ | refine xs_one (ch := []) rfl rfl rfl (pst_callgv rfl rfl rfl rfl rfl rfl (fun _ => awake_c) (by first | exact fun h => ⟨h, trivial⟩ | exact fun _ => trivial | exact fun h => ⟨h, h, trivial⟩) rfl rfl rfl ?_) | refine pcond_t rfl ?_ | refine pcond_f rfl ?_ | refine kround_exit ?_ | refine kround_ret ?_ | refine kround_next ?_ | refine kloop_ret ?_ | refine kloop_exit ?_ | refine kcut_ret ?_ | refine kcut_exit ?_ | refine xo0 4000 rfl ?_ ?_ | refine xw0 4000 rfl ?_ ?_ | exact qq | fail)
        refine xdone ?_
        exact kretv rfl ⟨trivial, trivial⟩ rfl rfl
      · repeat' (first | refine xo 4000 rfl ?_ ?_ | refine xw 4000 rfl ?_ ?_ | refine xk 4000 rfl ?_ ?_ | exact trivial | ((with_reducible (show AllP (_ :: _))); refine And.intro ?_ ?_) | refine xs rfl ?_ ?_ | refine xs_done ?_ | refine pcond_t rfl ?_ | refine pcond_f rfl ?_ | refine kround_exit ?_ | refine kround_ret ?_ | refine kround_next ?_ | refine kloop_ret ?_ | refine kloop_exit ?_ | refine kcut_ret ?_ | refine kcut_exit ?_ | refine xo0 4000 rfl ?_ ?_ | refine xw0 4000 rfl ?_ ?_ | exact qq | fail)
        rw [hw]
        exact kloop_next (m - (i + 1)) (can_sel [0, 1, 5]) (by omega) ⟨i + 1, by omega, rfl, rfl⟩
    repeat' (first | refine xo 4000 rfl ?_ ?_ | refine xw 4000 rfl ?_ ?_ | refine xk 4000 rfl ?_ ?_ | exact trivial | ((with_reducible (show AllP (_ :: _))); refine And.intro ?_ ?_) | refine xs rfl ?_ ?_ | refine xs_done ?_ | refine pcond_t rfl ?_ | refine pcond_f rfl ?_ | refine kround_exit ?_ | refine kround_ret ?_ | refine kround_next ?_ | refine kloop_ret ?_ | refine kloop_exit ?_ | refine kcut_ret ?_ | refine kcut_exit ?_ | refine xo0 4000 rfl ?_ ?_ | refine xw0 4000 rfl ?_ ?_ | exact qq | fail)
    refine pop_rowsc [] rfl rfl rfl rfl rfl rfl .nil (dnew_c n g) (by exact ⟨PEq.refl _, trivial⟩) ?_
    rintro r rows ⟨rfl, rfl⟩
    refine ⟨_, _, rfl, ⟨tape_cl _ _ _, trivial⟩, rfl, ?_⟩
    repeat' (first | refine xo 4000 rfl ?_ ?_ | refine xw 4000 rfl ?_ ?_ | refine xk 4000 rfl ?_ ?_ | exact trivial | ((with_reducible (show AllP (_ :: _))); refine And.intro ?_ ?_) | refine xs rfl ?_ ?_ | refine xs_done ?_ | refine pcond_t rfl ?_ | refine pcond_f rfl ?_ | refine kround_exit ?_ | refine kround_ret ?_ | refine kround_next ?_ | refine kloop_ret ?_ | refine kloop_exit ?_ | refine kcut_ret ?_ | refine kcut_exit ?_ | refine xo0 4000 rfl ?_ ?_ | refine xw0 4000 rfl ?_ ?_ | exact qq | fail)
    refine pop_dek (G := G) rfl rfl rfl rfl rfl rfl rfl rfl (fun _ => rfl) (dscheme_t ⟨#[97]⟩ name_a) hn (by omega) (by omega) rfl rfl ?_; rintro at_ _ b1 b2 ⟨s, rfl, hcode, hS⟩
    have hs : s.code.size ≤ 9223372036854775807 := by rw [hcode]; decide
    repeat' (first | refine xo 4000 rfl ?_ ?_ | refine xw 4000 rfl ?_ ?_ | refine xk 4000 rfl ?_ ?_ | exact trivial | ((with_reducible (show AllP (_ :: _))); refine And.intro ?_ ?_) | refine xs rfl ?_ ?_ | refine xs_done ?_ | refine pcond_t rfl ?_ | refine pcond_f rfl ?_ | refine kround_exit ?_ | refine kround_ret ?_ | refine kround_next ?_ | refine kloop_ret ?_ | refine kloop_exit ?_ | refine kcut_ret ?_ | refine kcut_exit ?_ | refine xo0 4000 rfl ?_ ?_ | refine xw0 4000 rfl ?_ ?_ | exact qq | fail)
    refine pop_dek (G := G) rfl rfl rfl rfl rfl rfl rfl rfl (fun _ => rfl) (dnext_t 4 (by omega) (by omega)) hn (by omega) (by omega) rfl rfl ?_; rintro at_ _ b1 b2 ⟨k, rfl, k0, k1⟩
    repeat' (first | refine xo 4000 rfl ?_ ?_ | refine xw 4000 rfl ?_ ?_ | refine xk 4000 rfl ?_ ?_ | exact trivial | ((with_reducible (show AllP (_ :: _))); refine And.intro ?_ ?_) | refine xs rfl ?_ ?_ | refine xs_done ?_ | refine pcond_t rfl ?_ | refine pcond_f rfl ?_ | refine kround_exit ?_ | refine kround_ret ?_ | refine kround_next ?_ | refine kloop_ret ?_ | refine kloop_exit ?_ | refine kcut_ret ?_ | refine kcut_exit ?_ | refine xo0 4000 rfl ?_ ?_ | refine xw0 4000 rfl ?_ ?_ | exact qq | fail)
    refine pop_dek (G := G) rfl rfl rfl rfl rfl rfl rfl rfl (fun _ => rfl) (dnext_t 10 (by omega) (by omega)) hn (by omega) (by omega) rfl rfl ?_; rintro at_ _ b1 b2 ⟨c, rfl, c0, c1⟩
    repeat' (first | refine xo 4000 rfl ?_ ?_ | refine xw 4000 rfl ?_ ?_ | refine xk 4000 rfl ?_ ?_ | exact trivial | ((with_reducible (show AllP (_ :: _))); refine And.intro ?_ ?_) | refine xs rfl ?_ ?_ | refine xs_done ?_ | refine pcond_t rfl ?_ | refine pcond_f rfl ?_ | refine kround_exit ?_ | refine kround_ret ?_ | refine kround_next ?_ | refine kloop_ret ?_ | refine kloop_exit ?_ | refine kcut_ret ?_ | refine kcut_exit ?_ | refine xo0 4000 rfl ?_ ?_ | refine xw0 4000 rfl ?_ ?_ | exact qq | fail)
    refine pop_rowsc [0] rfl rfl rfl rfl rfl rfl (.cons rfl trivial (RowEq.cl (tape_cl _ _ _)) .nil) (demps_r n g _ c k hn (by omega) (by omega) c0 (by omega) k0 (by omega)) (by exact ⟨PEq.refl _, PEq.refl _, PEq.refl _, trivial⟩) ?_
    have hwk : IntKind.i64.wrap (k + 1) = k + 1 := w64 (by omega) (by omega)
    have hsz : ∀ {e : Int} {l : List Emp}, 0 ≤ e → e ≤ 1000 → (∀ x, x ∈ l → EGd e.toNat x) → ∀ i, i < l.length → (lF dM l i).n ≤ 9223372036854775807 := fun e0 e1 h i hi => by
      rw [(h _ (lF_mem hi)).n]; omega
    rintro r rows ⟨at1, l, a1, a2, hlc, hl, h | h⟩
    · obtain ⟨rfl, rfl, rfl⟩ := h
      refine ⟨_, _, rfl, ⟨tape_cl _ _ _, trivial⟩, rfl, ?_⟩
      refine ocan (st' := ⟨[(1, vMs m raw), (6, .ptr 0 0 0), (7, .ptr 1 0 0), (8, vi k), (46, .val (.slice none 0 0))], [tapeRow n g at1, rS s]⟩) (can_rowsv [0,1] (k0_sel hk rfl) rfl (by (repeat (refine SelV.cons rfl rqq ?_)); exact SelV.nil) tmq) ?_
      repeat' (first | refine xo 4000 rfl ?_ ?_ | refine xw 4000 rfl ?_ ?_ | refine xk 4000 rfl ?_ ?_ | exact trivial | ((with_reducible (show AllP (_ :: _))); refine And.intro ?_ ?_) | refine xs rfl ?_ ?_ | refine xs_done ?_ | refine pcond_t rfl ?_ | refine pcond_f rfl ?_ | refine kround_exit ?_ | refine kround_ret ?_ | refine kround_next ?_ | refine kloop_ret ?_ | refine kloop_exit ?_ | refine kcut_ret ?_ | refine kcut_exit ?_ | refine xo0 4000 rfl ?_ ?_ | refine xw0 4000 rfl ?_ ?_ | exact qq | fail)
      refine pop_dek (G := G) rfl rfl rfl rfl rfl rfl rfl rfl (fun _ => rfl) (dnext_t 6 (by omega) (by omega)) hn (by omega) (by omega) rfl rfl ?_; rintro at_ _ b1 b2 ⟨u, rfl, u0, u1⟩
      repeat' (first | refine xo 4000 rfl ?_ ?_ | refine xw 4000 rfl ?_ ?_ | refine xk 4000 rfl ?_ ?_ | exact trivial | ((with_reducible (show AllP (_ :: _))); refine And.intro ?_ ?_) | refine xs rfl ?_ ?_ | refine xs_done ?_ | refine pcond_t rfl ?_ | refine pcond_f rfl ?_ | refine kround_exit ?_ | refine kround_ret ?_ | refine kround_next ?_ | refine kloop_ret ?_ | refine kloop_exit ?_ | refine kcut_ret ?_ | refine kcut_exit ?_ | refine xo0 4000 rfl ?_ ?_ | refine xw0 4000 rfl ?_ ?_ | exact qq | fail)
      refine pcut (fun st => ∃ (mx : Nat) (gx : Nat → Emp), mx ≤ 9223372036854775807 ∧ (∀ i, i < mx → (gx i).n ≤ 9223372036854775807) ∧ st = ⟨[(1, vMs m raw), (7, .ptr 0 0 0), (9, vMs mx gx)], [rS s]⟩) ?_ ?_
      · refine pcond rfl ?_ ?_ <;> intro hc4
        · repeat' (first | refine xo 4000 rfl ?_ ?_ | refine xw 4000 rfl ?_ ?_ | refine xk 4000 rfl ?_ ?_ | exact trivial | ((with_reducible (show AllP (_ :: _))); refine And.intro ?_ ?_) | refine xs rfl ?_ ?_ | refine xs_done ?_ | refine pcond_t rfl ?_ | refine pcond_f rfl ?_ | refine kround_exit ?_ | refine kround_ret ?_ | refine kround_next ?_ | refine kloop_ret ?_ | refine kloop_exit ?_ | refine kcut_ret ?_ | refine kcut_exit ?_ | refine xo0 4000 rfl ?_ ?_ | refine xw0 4000 rfl ?_ ?_ | exact qq | fail)
          rw [hwk]
          refine pop_rowsc [0] rfl rfl rfl rfl rfl rfl (.cons rfl trivial (RowEq.cl (tape_cl _ _ _)) .nil) (demps_r n g _ 1 (k + 1) hn (by omega) (by omega) (by omega) (by omega) (by omega) (by omega)) (by exact ⟨PEq.refl _, PEq.refl _, PEq.refl _, trivial⟩) ?_
          rintro r rows ⟨at2, l2, d1, d2, hl2c, hl2, h | h⟩
          · obtain ⟨rfl, _, _⟩ := h; simp at hl2c
          · obtain ⟨hpos, rfl, rfl⟩ := h
            refine ⟨_, _, rfl, ⟨tape_cl _ _ _, o_cl cM_cl _ _ _, trivial⟩, rfl, ?_⟩
            repeat' (first | refine xo 4000 rfl ?_ ?_ | refine xw 4000 rfl ?_ ?_ | refine xk 4000 rfl ?_ ?_ | exact trivial | ((with_reducible (show AllP (_ :: _))); refine And.intro ?_ ?_) | refine xs rfl ?_ ?_ | refine xs_done ?_ | exact (show _ ∧ _ ∧ (_ : Nat) * 32 ≤ 140737488355328 ∧ (_ : Nat) ≤ 9223372036854775807 from ⟨Nat.le_of_eq (Nat.zero_add _), by assumption, by omega, by omega⟩) | exact (show _ ∧ _ ∧ _ ∧ (_ : Nat) * 32 ≤ 140737488355328 ∧ (_ : Nat) ≤ 9223372036854775807 from ⟨Nat.le_of_eq (Nat.zero_add _), (by rw [hk]; exact Nat.zero_le _), Nat.le_of_eq (Nat.zero_add _), by omega, by omega⟩) | refine pcond_t rfl ?_ | refine pcond_f rfl ?_ | refine kround_exit ?_ | refine kround_ret ?_ | refine kround_next ?_ | refine kloop_ret ?_ | refine kloop_exit ?_ | refine kcut_ret ?_ | refine kcut_exit ?_ | refine xo0 4000 rfl ?_ ?_ | refine xw0 4000 rfl ?_ ?_ | exact qq | fail)
            exact kcut ((can_frz [3] (by intro l hl; rw [hk]; exact Nat.zero_le _) rfl (tm := [(1, vMs m raw), (7, .ptr 1 0 0), (9, vMs l2.length (lF dM l2))]) (by exact ⟨.inl rfl, .inl rfl, .inr (argLsl (r := ⟨.own, false, l2.length, 2, _⟩) rfl trivial (List.Mem.head _) (Nat.le_of_eq (Nat.zero_add _)) (fun a ha b hb => ⟨by show tF cM (lF dM l2) (0 + (0 + a)) b = _; rw [Nat.zero_add, Nat.zero_add], tF_cl cM_cl _ _ _⟩)), trivial⟩)).trans (can_rowsv [1] (rows := [rS s]) (k0_sel hk rfl) rfl (.cons rfl rqq .nil) tmq)) ⟨l2.length, lF dM l2, by omega, hsz (by omega) (by omega) hl2, rfl⟩
        · repeat' (first | refine xo 4000 rfl ?_ ?_ | refine xw 4000 rfl ?_ ?_ | refine xk 4000 rfl ?_ ?_ | exact trivial | ((with_reducible (show AllP (_ :: _))); refine And.intro ?_ ?_) | refine xs rfl ?_ ?_ | refine xs_done ?_ | refine pcond_t rfl ?_ | refine pcond_f rfl ?_ | refine kround_exit ?_ | refine kround_ret ?_ | refine kround_next ?_ | refine kloop_ret ?_ | refine kloop_exit ?_ | refine kcut_ret ?_ | refine kcut_exit ?_ | refine xo0 4000 rfl ?_ ?_ | refine xw0 4000 rfl ?_ ?_ | exact qq | fail)
          exact kcut ((can_frz [] (fun _ h => by cases h) rfl (tm := [(1, vMs m raw), (7, .ptr 1 0 0), (9, vMs 0 (lF dM []))]) (by exact ⟨.inl rfl, .inl rfl, .inr nilM, trivial⟩)).trans (can_rowsv [1] (rows := [rS s]) (k0_sel hk rfl) rfl (.cons rfl rqq .nil) tmq)) ⟨0, lF dM [], by omega, fun i hi => absurd hi (Nat.not_lt_zero i), rfl⟩
      · rintro _ ⟨mx, gx, hmx, hgx, rfl⟩
        have q1 := joint_c s mx gx hs hmx hgx
        have q2 := joint28_c s mx gx hs hmx hgx
        have q3 := joint_c s m raw hs hm hrn
        have q4 := joint28_c s m raw hs hm hrn
        have l1 := joi_len (x := s) (m := mx) (g := gx)
        have l2 := joi_len (x := s) (m := m) (g := raw)
        generalize joiS s mx gx = X at *
        generalize joiS s m raw = Y at *
        obtain ⟨⟨xa, xF⟩, xe⟩ := X
        obtain ⟨⟨ya, yF⟩, ye⟩ := Y
        simp only at l1 l2
        repeat' (first | refine xo 4000 rfl ?_ ?_ | refine xw 4000 rfl ?_ ?_ | refine xk 4000 rfl ?_ ?_ | exact trivial | ((with_reducible (show AllP (_ :: _))); refine And.intro ?_ ?_) | refine xs rfl ?_ ?_ | refine xs_done ?_ | (refine pop_callc [] rfl rfl rfl rfl rfl rfl (fun _ h => by cases h) (q1) (args_cl _ rfl) ?_; rintro _ rfl) | (refine pop_callc [] rfl rfl rfl rfl rfl rfl (fun _ h => by cases h) (q2) (args_cl _ rfl) ?_; rintro _ rfl) | (refine pop_callc [] rfl rfl rfl rfl rfl rfl (fun _ h => by cases h) (q3) (args_cl _ rfl) ?_; rintro _ rfl) | (refine pop_callc [] rfl rfl rfl rfl rfl rfl (fun _ h => by cases h) (q4) (args_cl _ rfl) ?_; rintro _ rfl) | refine pop_callv rfl rfl rfl rfl rfl (same_c xa xF (by omega)) rfl rfl rfl ?_ | refine xs_call rfl rfl rfl rfl rfl rfl (same_c xa xF (by omega)) rfl rfl rfl ?_ | refine xs_one (ch := []) rfl rfl rfl (pst_callv rfl rfl rfl rfl rfl (same_c xa xF (by omega)) rfl rfl rfl ?_) | refine pop_callgv rfl rfl rfl rfl rfl rfl (fun _ => same_c xa xF (by omega)) (by first | exact fun h => ⟨h, trivial⟩ | exact fun _ => trivial | exact fun h => ⟨h, h, trivial⟩) rfl rfl rfl ?_ | refine xs_one (ch := []) rfl rfl rfl (pst_callgv rfl rfl rfl rfl rfl rfl (fun _ => same_c xa xF (by omega)) (by first | exact fun h => ⟨h, trivial⟩ | exact fun _ => trivial | exact fun h => ⟨h, h, trivial⟩) rfl rfl rfl ?_) | refine pop_callv rfl rfl rfl rfl rfl (same_c ya yF (by omega)) rfl rfl rfl ?_ | refine xs_call rfl rfl rfl rfl rfl rfl (same_c ya yF (by omega)) rfl rfl rfl ?_ | refine xs_one (ch := []) rfl rfl rfl (pst_callv rfl rfl rfl rfl rfl (same_c ya yF (by omega)) rfl rfl rfl ?_) | refine pop_callgv rfl rfl rfl rfl rfl rfl (fun _ => same_c ya yF (by omega)) (by first | exact fun h => ⟨h, trivial⟩ | exact fun _ => trivial | exact fun h => ⟨h, h, trivial⟩) rfl rfl rfl ?_ | refine xs_one (ch := []) rfl rfl rfl (pst_callgv rfl rfl rfl rfl rfl rfl (fun _ => same_c ya yF (by omega)) (by first | exact fun h => ⟨h, trivial⟩ | exact fun _ => trivial | exact fun h => ⟨h, h, trivial⟩) rfl rfl rfl ?_) | refine pop_callv rfl rfl rfl rfl rfl (awake_c) rfl rfl rfl ?_ | refine xs_call rfl rfl rfl rfl rfl rfl (awake_c) rfl rfl rfl ?_ | refine xs_one (ch := []) rfl rfl rfl (pst_callv rfl rfl rfl rfl rfl (awake_c) rfl rfl rfl ?_) | refine pop_callgv rfl rfl rfl rfl rfl rfl (fun _ => awake_c) (by first | exact fun h => ⟨h, trivial⟩ | exact fun _ => trivial | exact fun h => ⟨h, h, trivial⟩) rfl rfl rfl ?_ | refine xs_one (ch := []) rfl rfl rfl (pst_callgv rfl rfl rfl rfl rfl rfl (fun _ => awake_c) (by first | exact fun h => ⟨h, trivial⟩ | exact fun _ => trivial | exact fun h => ⟨h, h, trivial⟩) rfl rfl rfl ?_) | refine pcond_t rfl ?_ | refine pcond_f rfl ?_ | refine kround_exit ?_ | refine kround_ret ?_ | refine kround_next ?_ | refine kloop_ret ?_ | refine kloop_exit ?_ | refine kcut_ret ?_ | refine kcut_exit ?_ | refine xo0 4000 rfl ?_ ?_ | refine xw0 4000 rfl ?_ ?_ | exact qq | fail)
        refine xdone ?_
        refine kretv rfl ⟨trivial, trivial⟩ rfl (eqB ?_)
        simp
    · obtain ⟨hpos, rfl, rfl⟩ := h
      refine ⟨_, _, rfl, ⟨tape_cl _ _ _, o_cl cM_cl _ _ _, trivial⟩, rfl, ?_⟩
      refine ocan (st' := ⟨[(1, vMs m raw), (6, .ptr 0 0 0), (7, .ptr 1 0 0), (8, vi k), (46, .lsl 2 0 l.length)], [tapeRow n g at1, rS s, oRow cM 2 l.length (lF dM l)]⟩) (can_rowsv [0, 1, 2] (k0_sel hk rfl) rfl (.cons rfl rqq (.cons rfl rqq (.cons rfl (RowEq.cl (o_cl cM_cl _ _ _)) .nil))) tmq) ?_
      repeat' (first | refine xo 4000 rfl ?_ ?_ | refine xw 4000 rfl ?_ ?_ | refine xk 4000 rfl ?_ ?_ | exact trivial | ((with_reducible (show AllP (_ :: _))); refine And.intro ?_ ?_) | refine xs rfl ?_ ?_ | refine xs_done ?_ | refine pcond_t rfl ?_ | refine pcond_f rfl ?_ | refine kround_exit ?_ | refine kround_ret ?_ | refine kround_next ?_ | refine kloop_ret ?_ | refine kloop_exit ?_ | refine kcut_ret ?_ | refine kcut_exit ?_ | refine xo0 4000 rfl ?_ ?_ | refine xw0 4000 rfl ?_ ?_ | exact qq | fail)
      refine pop_dek (G := G) rfl rfl rfl rfl rfl rfl rfl rfl (fun _ => rfl) (dnext_t 6 (by omega) (by omega)) hn (by omega) (by omega) rfl rfl ?_; rintro at_ _ b1 b2 ⟨u, rfl, u0, u1⟩
      repeat' (first | refine xo 4000 rfl ?_ ?_ | refine xw 4000 rfl ?_ ?_ | refine xk 4000 rfl ?_ ?_ | exact trivial | ((with_reducible (show AllP (_ :: _))); refine And.intro ?_ ?_) | refine xs rfl ?_ ?_ | refine xs_done ?_ | refine pcond_t rfl ?_ | refine pcond_f rfl ?_ | refine kround_exit ?_ | refine kround_ret ?_ | refine kround_next ?_ | refine kloop_ret ?_ | refine kloop_exit ?_ | refine kcut_ret ?_ | refine kcut_exit ?_ | refine xo0 4000 rfl ?_ ?_ | refine xw0 4000 rfl ?_ ?_ | exact qq | fail)
      refine pcut (fun st => ∃ (mx : Nat) (gx : Nat → Emp), mx ≤ 9223372036854775807 ∧ (∀ i, i < mx → (gx i).n ≤ 9223372036854775807) ∧ st = ⟨[(1, vMs m raw), (7, .ptr 0 0 0), (9, vMs mx gx)], [rS s]⟩) ?_ ?_
      · refine pcond rfl ?_ ?_ <;> intro hc4
        · repeat' (first | refine xo 4000 rfl ?_ ?_ | refine xw 4000 rfl ?_ ?_ | refine xk 4000 rfl ?_ ?_ | exact trivial | ((with_reducible (show AllP (_ :: _))); refine And.intro ?_ ?_) | refine xs rfl ?_ ?_ | refine xs_done ?_ | refine pcond_t rfl ?_ | refine pcond_f rfl ?_ | refine kround_exit ?_ | refine kround_ret ?_ | refine kround_next ?_ | refine kloop_ret ?_ | refine kloop_exit ?_ | refine kcut_ret ?_ | refine kcut_exit ?_ | refine xo0 4000 rfl ?_ ?_ | refine xw0 4000 rfl ?_ ?_ | exact qq | fail)
          rw [hwk]
          refine pop_rowsc [0] rfl rfl rfl rfl rfl rfl (.cons rfl trivial (RowEq.cl (tape_cl _ _ _)) .nil) (demps_r n g _ 1 (k + 1) hn (by omega) (by omega) (by omega) (by omega) (by omega) (by omega)) (by exact ⟨PEq.refl _, PEq.refl _, PEq.refl _, trivial⟩) ?_
          rintro r rows ⟨at2, l2, d1, d2, hl2c, hl2, h | h⟩
          · obtain ⟨rfl, _, _⟩ := h; simp at hl2c
          · obtain ⟨hpos2, rfl, rfl⟩ := h
            refine ⟨_, _, rfl, ⟨tape_cl _ _ _, o_cl cM_cl _ _ _, trivial⟩, rfl, ?_⟩
            repeat' (first | refine xo 4000 rfl ?_ ?_ | refine xw 4000 rfl ?_ ?_ | refine xk 4000 rfl ?_ ?_ | exact trivial | ((with_reducible (show AllP (_ :: _))); refine And.intro ?_ ?_) | refine xs rfl ?_ ?_ | refine xs_done ?_ | exact (show _ ∧ _ ∧ (_ : Nat) * 32 ≤ 140737488355328 ∧ (_ : Nat) ≤ 9223372036854775807 from ⟨Nat.le_of_eq (Nat.zero_add _), by assumption, by omega, by omega⟩) | exact (show _ ∧ _ ∧ _ ∧ (_ : Nat) * 32 ≤ 140737488355328 ∧ (_ : Nat) ≤ 9223372036854775807 from ⟨Nat.le_of_eq (Nat.zero_add _), (by rw [hk]; exact Nat.zero_le _), Nat.le_of_eq (Nat.zero_add _), by omega, by omega⟩) | refine pcond_t rfl ?_ | refine pcond_f rfl ?_ | refine kround_exit ?_ | refine kround_ret ?_ | refine kround_next ?_ | refine kloop_ret ?_ | refine kloop_exit ?_ | refine kcut_ret ?_ | refine kcut_exit ?_ | refine xo0 4000 rfl ?_ ?_ | refine xw0 4000 rfl ?_ ?_ | exact qq | fail)
            exact kcut ((can_frz [4] (by intro l hl; rw [hk]; exact Nat.zero_le _) rfl (tm := [(1, vMs m raw), (7, .ptr 1 0 0), (9, vMs (l.length + l2.length) (twoE l l2))]) (by exact ⟨.inl rfl, .inl rfl, .inr (argLsl (r := ⟨.own, false, l.length + l2.length, 2, _⟩) rfl trivial (List.Mem.head _) (Nat.le_of_eq (Nat.zero_add _)) (two_cells rfl)), trivial⟩)).trans (can_rowsv [1] (rows := [rS s]) (k0_sel hk rfl) rfl (.cons rfl rqq .nil) tmq)) ⟨l.length + l2.length, twoE l l2, by omega, fun i hi => by unfold twoE; split; exact hsz k0 (by omega) hl i (by assumption); exact hsz (by omega) (by omega) hl2 _ (by omega), rfl⟩
        · repeat' (first | refine xo 4000 rfl ?_ ?_ | refine xw 4000 rfl ?_ ?_ | refine xk 4000 rfl ?_ ?_ | exact trivial | ((with_reducible (show AllP (_ :: _))); refine And.intro ?_ ?_) | refine xs rfl ?_ ?_ | refine xs_done ?_ | refine pcond_t rfl ?_ | refine pcond_f rfl ?_ | refine kround_exit ?_ | refine kround_ret ?_ | refine kround_next ?_ | refine kloop_ret ?_ | refine kloop_exit ?_ | refine kcut_ret ?_ | refine kcut_exit ?_ | refine xo0 4000 rfl ?_ ?_ | refine xw0 4000 rfl ?_ ?_ | exact qq | fail)
          exact kcut ((can_frz [2] (by intro l hl; rw [hk]; exact Nat.zero_le _) rfl (tm := [(1, vMs m raw), (7, .ptr 1 0 0), (9, vMs l.length (lF dM l))]) (by exact ⟨.inl rfl, .inl rfl, .inr (arg_o (s := .own) cM_cl rfl trivial (List.Mem.head _)), trivial⟩)).trans (can_rowsv [1] (rows := [rS s]) (k0_sel hk rfl) rfl (.cons rfl rqq .nil) tmq)) ⟨l.length, lF dM l, by omega, hsz k0 (by omega) hl, rfl⟩
      · rintro _ ⟨mx, gx, hmx, hgx, rfl⟩
        have q1 := joint_c s mx gx hs hmx hgx
        have q2 := joint28_c s mx gx hs hmx hgx
        have q3 := joint_c s m raw hs hm hrn
        have q4 := joint28_c s m raw hs hm hrn
        have l1 := joi_len (x := s) (m := mx) (g := gx)
        have l2 := joi_len (x := s) (m := m) (g := raw)
        generalize joiS s mx gx = X at *
        generalize joiS s m raw = Y at *
        obtain ⟨⟨xa, xF⟩, xe⟩ := X
        obtain ⟨⟨ya, yF⟩, ye⟩ := Y
        simp only at l1 l2
        repeat' (first | refine xo 4000 rfl ?_ ?_ | refine xw 4000 rfl ?_ ?_ | refine xk 4000 rfl ?_ ?_ | exact trivial | ((with_reducible (show AllP (_ :: _))); refine And.intro ?_ ?_) | refine xs rfl ?_ ?_ | refine xs_done ?_ | (refine pop_callc [] rfl rfl rfl rfl rfl rfl (fun _ h => by cases h) (q1) (args_cl _ rfl) ?_; rintro _ rfl) | (refine pop_callc [] rfl rfl rfl rfl rfl rfl (fun _ h => by cases h) (q2) (args_cl _ rfl) ?_; rintro _ rfl) | (refine pop_callc [] rfl rfl rfl rfl rfl rfl (fun _ h => by cases h) (q3) (args_cl _ rfl) ?_; rintro _ rfl) | (refine pop_callc [] rfl rfl rfl rfl rfl rfl (fun _ h => by cases h) (q4) (args_cl _ rfl) ?_; rintro _ rfl) | refine pop_callv rfl rfl rfl rfl rfl (same_c xa xF (by omega)) rfl rfl rfl ?_ | refine xs_call rfl rfl rfl rfl rfl rfl (same_c xa xF (by omega)) rfl rfl rfl ?_ | refine xs_one (ch := []) rfl rfl rfl (pst_callv rfl rfl rfl rfl rfl (same_c xa xF (by omega)) rfl rfl rfl ?_) | refine pop_callgv rfl rfl rfl rfl rfl rfl (fun _ => same_c xa xF (by omega)) (by first | exact fun h => ⟨h, trivial⟩ | exact fun _ => trivial | exact fun h => ⟨h, h, trivial⟩) rfl rfl rfl ?_ | refine xs_one (ch := []) rfl rfl rfl (pst_callgv rfl rfl rfl rfl rfl rfl (fun _ => same_c xa xF (by omega)) (by first | exact fun h => ⟨h, trivial⟩ | exact fun _ => trivial | exact fun h => ⟨h, h, trivial⟩) rfl rfl rfl ?_) | refine pop_callv rfl rfl rfl rfl rfl (same_c ya yF (by omega)) rfl rfl rfl ?_ | refine xs_call rfl rfl rfl rfl rfl rfl (same_c ya yF (by omega)) rfl rfl rfl ?_ | refine xs_one (ch := []) rfl rfl rfl (pst_callv rfl rfl rfl rfl rfl (same_c ya yF (by omega)) rfl rfl rfl ?_) | refine pop_callgv rfl rfl rfl rfl rfl rfl (fun _ => same_c ya yF (by omega)) (by first | exact fun h => ⟨h, trivial⟩ | exact fun _ => trivial | exact fun h => ⟨h, h, trivial⟩) rfl rfl rfl ?_ | refine xs_one (ch := []) rfl rfl rfl (pst_callgv rfl rfl rfl rfl rfl rfl (fun _ => same_c ya yF (by omega)) (by first | exact fun h => ⟨h, trivial⟩ | exact fun _ => trivial | exact fun h => ⟨h, h, trivial⟩) rfl rfl rfl ?_) | refine pop_callv rfl rfl rfl rfl rfl (awake_c) rfl rfl rfl ?_ | refine xs_call rfl rfl rfl rfl rfl rfl (awake_c) rfl rfl rfl ?_ | refine xs_one (ch := []) rfl rfl rfl (pst_callv rfl rfl rfl rfl rfl (awake_c) rfl rfl rfl ?_) | refine pop_callgv rfl rfl rfl rfl rfl rfl (fun _ => awake_c) (by first | exact fun h => ⟨h, trivial⟩ | exact fun _ => trivial | exact fun h => ⟨h, h, trivial⟩) rfl rfl rfl ?_ | refine xs_one (ch := []) rfl rfl rfl (pst_callgv rfl rfl rfl rfl rfl rfl (fun _ => awake_c) (by first | exact fun h => ⟨h, trivial⟩ | exact fun _ => trivial | exact fun h => ⟨h, h, trivial⟩) rfl rfl rfl ?_) | refine pcond_t rfl ?_ | refine pcond_f rfl ?_ | refine kround_exit ?_ | refine kround_ret ?_ | refine kround_next ?_ | refine kloop_ret ?_ | refine kloop_exit ?_ | refine kcut_ret ?_ | refine kcut_exit ?_ | refine xo0 4000 rfl ?_ ?_ | refine xw0 4000 rfl ?_ ?_ | exact qq | fail)
        refine xdone ?_
        refine kretv rfl ⟨trivial, trivial⟩ rfl (eqB ?_)
        simp
theorem conJoint_walk (v : Value) (l : List Int) (v2 : Value) (m : Nat) (raw : Nat → Emp) (w : World) (h : IntsAt w v l) (h2 : EmpsAt w v2 m raw) : Calls G.P 10 #[v, v2] w fun e w' => e = .returned (.bool true) ∧ Ext w w' := by
  have hl : l.length ≤ 9223372036854775807 := by obtain ⟨_, _, _, _, h, _⟩ := h; exact h
  exact law_of (vs := [v, v2]) (conJoint_law l.length (fun i => l.getD i 0) m raw hl h2.1 h2.2.1) ⟨h.rel _, h2.2.2 _, trivial⟩
end Go.Proofs.Ytpfpikpioidldaa
