/- Garnishment: Attach. -/
import Derived.Test.YtipdkompinnghaaGar3
set_option linter.unusedSimpArgs false
set_option linter.unusedVariables false
set_option maxRecDepth 100000
namespace Go.Proofs.Ytipdkompinnghaa
structure Elt where
  cd : ByteArray
  am : Int
abbrev cE (x : Elt) : List PV := [vs x.cd, vi x.am]
theorem cE_cl : CellsCl cE := fun _ => ⟨trivial, trivial, trivial⟩
theorem cO_cl : CellsCl cO := fun _ => ⟨trivial, trivial, trivial, trivial, trivial, trivial⟩
def dE : Elt := ⟨⟨#[]⟩, 0⟩
abbrev vEs (l : List Elt) : PV := .vsl l.length 2 (tF cE (lF dE l))
abbrev pP (g : Nat → Ord) (i : Nat) : Bool := decide ((g i).rk = 0)
abbrev pO (g : Nat → Ord) (i : Nat) : Bool := !decide ((g i).rk = 0)
theorem key_p {n : Nat} {g : Nat → Ord} (h : OOk n g) : ∀ i j, i < n → j < n → keyO g i = keyO g j → pP g i = pP g j := fun i j hi hj e => by
  have := ((h.key hi hj).1 e).1
  unfold pP; rw [this]
theorem key_o {n : Nat} {g : Nat → Ord} (h : OOk n g) : ∀ i j, i < n → j < n → keyO g i = keyO g j → pO g i = pO g j := fun i j hi hj e => by
  have := ((h.key hi hj).1 e).1
  unfold pO; rw [this]
/-- what the privileged take, what all take -/
def tk1S (x : Shd) (net k : Int) (n : Nat) (g : Nat → Ord) (j : Nat) : Int := if j ∈ ixS n (pP g) then tkS n (keyO g) (clO g) (pP g) (net - lwS x net k) j else 0
def freeS (x : Shd) (net k : Int) (n : Nat) (g : Nat → Ord) : Int := mx0 (net - ptS x net k - sumN n (tk1S x net k n g))
def tkA (x : Shd) (net k : Int) (n : Nat) (g : Nat → Ord) (j : Nat) : Int := if j ∈ ixS n (pO g) then tkS n (keyO g) (clO g) (pO g) (freeS x net k n g) j else tk1S x net k n g j
/-- the elements of those that take something, of the first m -/
def eltS (g : Nat → Ord) (tk : Nat → Int) (m : Nat) : List Elt := ((List.range m).filter (fun j => decide (0 < tk j))).map fun j => ⟨(g j).id, tk j⟩
theorem eltS_succ (g : Nat → Ord) (tk : Nat → Int) (m : Nat) : eltS g tk (m + 1) = eltS g tk m ++ (if 0 < tk m then [⟨(g m).id, tk m⟩] else []) := by
  unfold eltS
  rw [List.range_succ, List.filter_append, List.map_append]
  by_cases h : 0 < tk m <;> simp [h]
theorem ixS_succ (p : Nat → Bool) (m : Nat) : ixS (m + 1) p = ixS m p ++ (if p m = true then [m] else []) := by
  unfold ixS
  rw [List.range_succ, List.filter_append]
  by_cases h : p m = true <;> simp [h]
def attS (x : Shd) (net k : Int) (n : Nat) (g : Nat → Ord) : List Elt × Int :=
  if (shdB x && ordsB n g) = false then ([], 1) else if chkS x net k ≠ 0 then ([], chkS x net k) else (eltS g (tkA x net k n g) n, 0)
abbrev vAt (r : List Elt × Int) : PV := .tup 2 (nthP [vEs r.1, vi r.2])
def rH (x : Shd) : Row := ⟨.own, true, 1, 5, fun _ => nthP (cH x)⟩
theorem rH_cl (x : Shd) : rowCl (rH x) := fun _ _ j _ => clL_nth _ j ⟨trivial, trivial, trivial, trivial, trivial, trivial⟩
theorem nilE {mem : List Row} {e : Int} : ArgsOk mem [] [.val (.slice none 0 0), vi e] [vEs [], vi e] := ⟨argNil, argVal, trivial⟩
theorem prot_eq {x : Shd} {net k : Int} (h : chkS x net k = 0) : protS x net k = (ptS x net k, 0) := by rw [protS, if_neg (by simp [h])]
theorem low_eq {x : Shd} {net k : Int} (h : chkS x net k = 0) : lowS x net k = (lwS x net k, 0) := by rw [lowS, if_neg (by simp [h])]
theorem pt_bd {x : Shd} {net k : Int} (h : COk x net k) : 0 ≤ ptS x net k ∧ ptS x net k ≤ net := by
  have hd := h.dep
  have := h.x.f0; have := h.n0
  unfold ptS
  simp only
  have hp0 : 0 ≤ x.fx + x.dp * k := by omega
  split
  · omega
  · generalize x.fx + x.dp * k = p at *
    have h1 : p ≤ (if x.tp < p then p else x.tp) := by split <;> omega
    generalize (if x.tp < p then p else x.tp) = M at *
    have h2 : p ≤ (if M < net then M else net) ∧ (if M < net then M else net) ≤ net := by split <;> omega
    generalize (if M < net then M else net) = m at *
    have := pcS_bd (a := m - p) (sh := x.sh) (by omega) h.x.s0 h.x.s1
    omega
theorem lw_bd {x : Shd} {net k : Int} (h : COk x net k) : 0 ≤ lwS x net k ∧ lwS x net k ≤ net := by
  have hd := h.dep
  have := h.x.l0; have := h.n0
  unfold lwS; split <;> omega
theorem mx0_bd {x c : Int} (h : x ≤ c) (hc : 0 ≤ c) : 0 ≤ mx0 x ∧ mx0 x ≤ c := by unfold mx0; split <;> omega
theorem tk_bd {n : Nat} {g : Nat → Ord} (h : OOk n g) (p : Nat → Bool) {A : Int} (a1 : A ≤ 1000000000) {i : Nat} (hi : i < n) : 0 ≤ tkS n (keyO g) (clO g) p A i ∧ tkS n (keyO g) (clO g) p A i ≤ 1000000001 := by
  have hc := h.cl hi
  unfold tkS
  split
  · omega
  · rename_i hgt
    have hb : 0 ≤ befS n (keyO g) (clO g) p (keyO g i) := sumL_nonneg fun x hx => (h.cl (ix_mem.1 hx).1).1
    have hL := mx0_bd (x := A - befS n (keyO g) (clO g) p (keyO g i)) (c := 1000000000) (by omega) (by omega)
    obtain ⟨gl, hgl⟩ : ∃ gl, gl = glS n (keyO g) (keyO g i) := ⟨_, rfl⟩
    rw [← hgl] at hgt ⊢
    have hmem : i ∈ gl := by rw [hgl, gl_mem]; exact ⟨hi, rfl⟩
    have hln : gl.length ≤ 16 := by rw [hgl]; unfold glS; exact Nat.le_trans (List.length_filter_le _ _) (by simpa using h.n16)
    have hW : WOk gl.length (sumL (clO g) gl) (fun a => clO g (gl.getD a 0)) := by
      have hg : ∀ a, a < gl.length → gl.getD a 0 < n := fun a ha => by
        have h1 : gl.getD a 0 ∈ gl := by rw [List.getD_eq_getElem?_getD, List.getElem?_eq_getElem ha]; exact List.getElem_mem ha
        have h2 : ∀ x, x ∈ gl → x < n := fun x hx => by rw [hgl, gl_mem] at hx; exact hx.1
        exact h2 _ h1
      exact ⟨by omega, fun a ha => (h.cl (hg a ha)).1, fun a ha => (h.cl (hg a ha)).2, sumN_sumL (clO g) gl, by omega⟩
    have := prt_bd hW hL.1 (List.idxOf_lt_length_of_mem hmem)
    omega
set_option maxHeartbeats 4000000 in
theorem attach_c (x : Shd) (net k : Int) (n : Nat) (g : Nat → Ord) (hs : ∀ i, i < n → (g i).id.size ≤ 9223372036854775807) : PureC G.P 29 [vH x, vi net, vi k, vOs n g] (fun r => r = vAt (attS x net k n g)) := by
  refine pure_of (G := G.toPg) (fn := Try.f29) Try.func29 rfl rfl rfl ?_; intro Γ hk
  repeat' (first | refine xo 4000 rfl ?_ ?_ | refine xw 4000 rfl ?_ ?_ | refine xk 4000 rfl ?_ ?_ | exact trivial | ((with_reducible (show AllP (_ :: _))); refine And.intro ?_ ?_) | refine xs rfl ?_ ?_ | refine xs_done ?_ | refine xs_start (id := 35) true [.take 0, .take 1, .take 2, .take 3, .take 4, .take 5, .take 6, .take 7, .one 8, .one 9, .take 10] 0 rfl rfl (by kernel_rfl) ?_ | refine pop_callv rfl rfl rfl rfl rfl (validShield_c _) rfl rfl rfl ?_ | refine xs_call rfl rfl rfl rfl rfl rfl (validShield_c _) rfl rfl rfl ?_ | refine xs_one (ch := []) rfl rfl rfl (pst_callv rfl rfl rfl rfl rfl (validShield_c _) rfl rfl rfl ?_) | refine pop_callgv rfl rfl rfl rfl rfl rfl (fun _ => validShield_c _) (by first | exact fun h => ⟨h, trivial⟩ | exact fun _ => trivial | exact fun h => ⟨h, h, trivial⟩) rfl rfl rfl ?_ | refine xs_one (ch := []) rfl rfl rfl (pst_callgv rfl rfl rfl rfl rfl rfl (fun _ => validShield_c _) (by first | exact fun h => ⟨h, trivial⟩ | exact fun _ => trivial | exact fun h => ⟨h, h, trivial⟩) rfl rfl rfl ?_) | refine pop_callv rfl rfl rfl rfl rfl (validOrders_c _ _ hs) rfl rfl rfl ?_ | refine xs_call rfl rfl rfl rfl rfl rfl (validOrders_c _ _ hs) rfl rfl rfl ?_ | refine xs_one (ch := []) rfl rfl rfl (pst_callv rfl rfl rfl rfl rfl (validOrders_c _ _ hs) rfl rfl rfl ?_) | refine pop_callgv rfl rfl rfl rfl rfl rfl (fun _ => validOrders_c _ _ hs) (by first | exact fun h => ⟨h, trivial⟩ | exact fun _ => trivial | exact fun h => ⟨h, h, trivial⟩) rfl rfl rfl ?_ | refine xs_one (ch := []) rfl rfl rfl (pst_callgv rfl rfl rfl rfl rfl rfl (fun _ => validOrders_c _ _ hs) (by first | exact fun h => ⟨h, trivial⟩ | exact fun _ => trivial | exact fun h => ⟨h, h, trivial⟩) rfl rfl rfl ?_) | refine pcond_t rfl ?_ | refine pcond_f rfl ?_ | refine kround_exit ?_ | refine kround_ret ?_ | refine kround_next ?_ | refine kloop_ret ?_ | refine kloop_exit ?_ | refine kcut_ret ?_ | refine kcut_exit ?_ | refine xo0 4000 rfl ?_ ?_ | refine xw0 4000 rfl ?_ ?_ | exact qq | fail)
  refine pcond (b := !(shdB x && ordsB n g)) ?_ ?_ ?_
  · refine eqB ?_; cases shdB x <;> cases ordsB n g <;> rfl
  · intro hc
    repeat' (first | refine xo 4000 rfl ?_ ?_ | refine xw 4000 rfl ?_ ?_ | refine xk 4000 rfl ?_ ?_ | exact trivial | ((with_reducible (show AllP (_ :: _))); refine And.intro ?_ ?_) | refine xs rfl ?_ ?_ | refine xs_done ?_ | refine pcond_t rfl ?_ | refine pcond_f rfl ?_ | refine kround_exit ?_ | refine kround_ret ?_ | refine kround_next ?_ | refine kloop_ret ?_ | refine kloop_exit ?_ | refine kcut_ret ?_ | refine kcut_exit ?_ | refine xo0 4000 rfl ?_ ?_ | refine xw0 4000 rfl ?_ ?_ | exact qq | fail)
    refine kret [] rfl ⟨trivial, trivial, trivial⟩ (qs := [vEs [], vi 1]) nilE ?_
    rw [attS, if_pos (by cases h : (shdB x && ordsB n g); rfl; rw [h] at hc; cases hc)]; rfl
  · intro hc
    have hv : (shdB x && ordsB n g) = true := by simpa using hc
    rw [attS, if_neg (by simp [hv])]
    simp only [Bool.and_eq_true] at hv
    repeat' (first | refine xo 4000 rfl ?_ ?_ | refine xw 4000 rfl ?_ ?_ | refine xk 4000 rfl ?_ ?_ | exact trivial | ((with_reducible (show AllP (_ :: _))); refine And.intro ?_ ?_) | refine xs rfl ?_ ?_ | refine xs_done ?_ | refine xs_start (id := 35) true [.take 0, .take 1, .take 2, .take 3, .take 4, .take 5, .take 6, .take 7, .one 8, .one 9, .take 10] 0 rfl rfl (by kernel_rfl) ?_ | refine pop_callv rfl rfl rfl rfl rfl (protected_c _ _ _) rfl rfl rfl ?_ | refine xs_call rfl rfl rfl rfl rfl rfl (protected_c _ _ _) rfl rfl rfl ?_ | refine xs_one (ch := []) rfl rfl rfl (pst_callv rfl rfl rfl rfl rfl (protected_c _ _ _) rfl rfl rfl ?_) | refine pop_callgv rfl rfl rfl rfl rfl rfl (fun _ => protected_c _ _ _) (by first | exact fun h => ⟨h, trivial⟩ | exact fun _ => trivial | exact fun h => ⟨h, h, trivial⟩) rfl rfl rfl ?_ | refine xs_one (ch := []) rfl rfl rfl (pst_callgv rfl rfl rfl rfl rfl rfl (fun _ => protected_c _ _ _) (by first | exact fun h => ⟨h, trivial⟩ | exact fun _ => trivial | exact fun h => ⟨h, h, trivial⟩) rfl rfl rfl ?_) | refine pcond_t rfl ?_ | refine pcond_f rfl ?_ | refine kround_exit ?_ | refine kround_ret ?_ | refine kround_next ?_ | refine kloop_ret ?_ | refine kloop_exit ?_ | refine kcut_ret ?_ | refine kcut_exit ?_ | refine xo0 4000 rfl ?_ ?_ | refine xw0 4000 rfl ?_ ?_ | exact qq | fail)
    by_cases hck : chkS x net k ≠ 0
    · have e1 : protS x net k = (0, chkS x net k) := by rw [protS, if_pos hck]
      rw [e1, if_pos hck]
      repeat' (first | refine xo 4000 rfl ?_ ?_ | refine xw 4000 rfl ?_ ?_ | refine xk 4000 rfl ?_ ?_ | exact trivial | ((with_reducible (show AllP (_ :: _))); refine And.intro ?_ ?_) | refine xs rfl ?_ ?_ | refine xs_done ?_ | refine pcond_t rfl ?_ | refine pcond_f rfl ?_ | refine kround_exit ?_ | refine kround_ret ?_ | refine kround_next ?_ | refine kloop_ret ?_ | refine kloop_exit ?_ | refine kcut_ret ?_ | refine kcut_exit ?_ | refine xo0 4000 rfl ?_ ?_ | refine xw0 4000 rfl ?_ ?_ | exact qq | fail)
      refine pcond rfl ?_ ?_ <;> intro hc2 <;> simp at hc2
      · repeat' (first | refine xo 4000 rfl ?_ ?_ | refine xw 4000 rfl ?_ ?_ | refine xk 4000 rfl ?_ ?_ | exact trivial | ((with_reducible (show AllP (_ :: _))); refine And.intro ?_ ?_) | refine xs rfl ?_ ?_ | refine xs_done ?_ | refine pcond_t rfl ?_ | refine pcond_f rfl ?_ | refine kround_exit ?_ | refine kround_ret ?_ | refine kround_next ?_ | refine kloop_ret ?_ | refine kloop_exit ?_ | refine kcut_ret ?_ | refine kcut_exit ?_ | refine xo0 4000 rfl ?_ ?_ | refine xw0 4000 rfl ?_ ?_ | exact qq | fail)
        exact kret [] rfl ⟨trivial, trivial, trivial⟩ (qs := [vEs [], vi (chkS x net k)]) nilE rfl
      · exact absurd hc2 hck
    · have hck : chkS x net k = 0 := by simpa using hck
      rw [prot_eq hck, if_neg (by simp [hck])]
      repeat' (first | refine xo 4000 rfl ?_ ?_ | refine xw 4000 rfl ?_ ?_ | refine xk 4000 rfl ?_ ?_ | exact trivial | ((with_reducible (show AllP (_ :: _))); refine And.intro ?_ ?_) | refine xs rfl ?_ ?_ | refine xs_done ?_ | refine xs_start (id := 35) true [.take 0, .take 1, .take 2, .take 3, .take 4, .take 5, .take 6, .take 7, .one 8, .one 9, .take 10] 0 rfl rfl (by kernel_rfl) ?_ | refine pop_callv rfl rfl rfl rfl rfl (lower31g_c _ _ _) rfl rfl rfl ?_ | refine xs_call rfl rfl rfl rfl rfl rfl (lower31g_c _ _ _) rfl rfl rfl ?_ | refine xs_one (ch := []) rfl rfl rfl (pst_callv rfl rfl rfl rfl rfl (lower31g_c _ _ _) rfl rfl rfl ?_) | refine pop_callgv rfl rfl rfl rfl rfl rfl (fun _ => lower31g_c _ _ _) (by first | exact fun h => ⟨h, trivial⟩ | exact fun _ => trivial | exact fun h => ⟨h, h, trivial⟩) rfl rfl rfl ?_ | refine xs_one (ch := []) rfl rfl rfl (pst_callgv rfl rfl rfl rfl rfl rfl (fun _ => lower31g_c _ _ _) (by first | exact fun h => ⟨h, trivial⟩ | exact fun _ => trivial | exact fun h => ⟨h, h, trivial⟩) rfl rfl rfl ?_) | refine pcond_t rfl ?_ | refine pcond_f rfl ?_ | refine kround_exit ?_ | refine kround_ret ?_ | refine kround_next ?_ | refine kloop_ret ?_ | refine kloop_exit ?_ | refine kcut_ret ?_ | refine kcut_exit ?_ | refine xo0 4000 rfl ?_ ?_ | refine xw0 4000 rfl ?_ ?_ | exact qq | fail)
      rw [low_eq hck]
      repeat' (first | refine xo 4000 rfl ?_ ?_ | refine xw 4000 rfl ?_ ?_ | refine xk 4000 rfl ?_ ?_ | exact trivial | ((with_reducible (show AllP (_ :: _))); refine And.intro ?_ ?_) | refine xs rfl ?_ ?_ | refine xs_done ?_ | refine pcond_t rfl ?_ | refine pcond_f rfl ?_ | refine kround_exit ?_ | refine kround_ret ?_ | refine kround_next ?_ | refine kloop_ret ?_ | refine kloop_exit ?_ | refine kcut_ret ?_ | refine kcut_exit ?_ | refine xo0 4000 rfl ?_ ?_ | refine xw0 4000 rfl ?_ ?_ | exact qq | fail)
      have hO := ords_ok hv.2
      have hC := chk_iff.1 hck
      have hpb := pt_bd hC
      have hlb := lw_bd hC
      have hn16 := hO.n16
      have hn1 := hC.n1
      have hn0 := hC.n0
      obtain ⟨pt, hpt⟩ : ∃ pt, pt = ptS x net k := ⟨_, rfl⟩
      obtain ⟨lw, hlw⟩ : ∃ lw, lw = lwS x net k := ⟨_, rfl⟩
      rw [← hpt] at hpb
      rw [← hlw] at hlb
      refine pcan (can_virt (vRow cN 1 0 (lF 0 [])) rfl) ?_
      refine pcan (can_virt (vRow cN 1 0 (lF 0 [])) rfl) ?_
      refine pcan (st' := ⟨[(1, vi net), (3, vOs n g), (10, vi (ptS x net k)), (12, vi (lwS x net k)), (13, slP 0 0), (14, slP 0 1), (54, vOs n g), (55, vi n), (56, vi 0)], [vRow cN 1 0 (lF 0 []), vRow cN 1 0 (lF 0 [])]⟩) (can_rowsv [1,2] (k0_sel hk rfl) rfl (by (repeat (refine SelV.cons rfl rqq ?_)); exact SelV.nil) tmq) ?_
      rw [← hpt, ← hlw]
      refine ploop (fun q st => ∃ (i kp ko : Nat), i ≤ n ∧ (ixS i (pP g)).length = kp ∧ (ixS i (pO g)).length = ko ∧ kp ≤ 16 ∧ ko ≤ 16 ∧ q = n - i ∧ st = ⟨[(1, vi net), (3, vOs n g), (10, vi pt), (12, vi lw), (13, slP kp 0), (14, slP ko 1), (54, vOs n g), (55, vi n), (56, vi i)], [vRow cN 1 kp (lF 0 (ixS i (pP g))), vRow cN 1 ko (lF 0 (ixS i (pO g)))]⟩) n ⟨0, 0, 0, by omega, rfl, rfl, by omega, by omega, rfl, rfl⟩ ?_
      rintro _ _ ⟨i, kp, ko, hi, hkp, hko, hkp6, hko6, rfl, rfl⟩
      have hlp : ∀ p, (ixS i p).length ≤ i := fun p => by unfold ixS; exact Nat.le_trans (List.length_filter_le _ _) (by simp)
      have hlp1 := hlp (pP g)
      have hlp2 := hlp (pO g)
      repeat' (first | refine xo 4000 rfl ?_ ?_ | refine xw 4000 rfl ?_ ?_ | refine xk 4000 rfl ?_ ?_ | exact trivial | ((with_reducible (show AllP (_ :: _))); refine And.intro ?_ ?_) | refine xs rfl ?_ ?_ | refine xs_done ?_ | refine pcond_t rfl ?_ | refine pcond_f rfl ?_ | refine kround_exit ?_ | refine kround_ret ?_ | refine kround_next ?_ | refine kloop_ret ?_ | refine kloop_exit ?_ | refine kcut_ret ?_ | refine kcut_exit ?_ | refine xo0 4000 rfl ?_ ?_ | refine xw0 4000 rfl ?_ ?_ | exact qq | fail)
      refine pcond rfl ?_ ?_ <;> intro hc3 <;> simp at hc3
      · have hw : IntKind.i64.wrap ((i : Int) + 1) = ((i + 1 : Nat) : Int) := w64 (by omega) (by omega)
        repeat' (first | refine xo 4000 rfl ?_ ?_ | refine xw 4000 rfl ?_ ?_ | refine xk 4000 rfl ?_ ?_ | exact trivial | ((with_reducible (show AllP (_ :: _))); refine And.intro ?_ ?_) | refine xs rfl ?_ ?_ | refine xs_done ?_ | refine pcond_t rfl ?_ | refine pcond_f rfl ?_ | refine kround_exit ?_ | refine kround_ret ?_ | refine kround_next ?_ | refine kloop_ret ?_ | refine kloop_exit ?_ | refine kcut_ret ?_ | refine kcut_exit ?_ | refine xo0 4000 rfl ?_ ?_ | refine xw0 4000 rfl ?_ ?_ | exact qq | fail)
        refine pcond rfl ?_ ?_ <;> intro hc4
        · have hc4 : (g i).rk = 0 := by have hc4 : ((g i).rk == 0) = true := hc4; simpa using hc4
          have e1 : ixS (i + 1) (pP g) = ixS i (pP g) ++ [i] := by rw [ixS_succ, if_pos (by simp [pP, hc4])]
          have e2 : ixS (i + 1) (pO g) = ixS i (pO g) := by rw [ixS_succ, if_neg (by simp [pO, hc4])]; simp
          have hlen' : (ixS i (pP g) ++ [i]).length = kp + 1 := by rw [List.length_append, hkp]; rfl
          have hle' : kp + 1 ≤ 16 := by omega
          rcases kp with _ | kp
          · repeat' (first | refine xo 4000 rfl ?_ ?_ | refine xw 4000 rfl ?_ ?_ | refine xk 4000 rfl ?_ ?_ | exact trivial | ((with_reducible (show AllP (_ :: _))); refine And.intro ?_ ?_) | refine xs rfl ?_ ?_ | refine xs_done ?_ | refine pcond_t rfl ?_ | refine pcond_f rfl ?_ | refine kround_exit ?_ | refine kround_ret ?_ | refine kround_next ?_ | refine kloop_ret ?_ | refine kloop_exit ?_ | refine kcut_ret ?_ | refine kcut_exit ?_ | refine xo0 4000 rfl ?_ ?_ | refine xw0 4000 rfl ?_ ?_ | exact qq | fail)
            rw [hw]
            exact kloop_next (st' := ⟨[(1, vi net), (3, vOs n g), (10, vi pt), (12, vi lw), (13, slP (0 + 1) 0), (14, slP ko 1), (54, vOs n g), (55, vi n), (56, vi ((i + 1 : Nat) : Int))], [vRow cN 1 (0 + 1) (lF 0 (ixS i (pP g) ++ [i])), vRow cN 1 ko (lF 0 (ixS i (pO g)))]⟩) (n - (i + 1)) (can_rowsv [4, 1] (k0_sel hk rfl) rfl (.cons rfl (by first | exact app_l cN_cl (by assumption) rfl rfl | exact app_l0 cN_cl (by assumption) rfl) (.cons rfl (RowEq.cl (v_cl cN_cl _ _ _)) .nil)) (by (repeat (first | refine ⟨PEq.refl _, ?_⟩ | refine ⟨peq_slP rfl, ?_⟩)); exact trivial)) (by omega) ⟨i + 1, 0 + 1, ko, by omega, by rw [e1]; exact hlen', by rw [e2]; exact hko, hle', hko6, rfl, by rw [e1, e2]⟩
          · repeat' (first | refine xo 4000 rfl ?_ ?_ | refine xw 4000 rfl ?_ ?_ | refine xk 4000 rfl ?_ ?_ | exact trivial | ((with_reducible (show AllP (_ :: _))); refine And.intro ?_ ?_) | refine xs rfl ?_ ?_ | refine xs_done ?_ | refine pcond_t rfl ?_ | refine pcond_f rfl ?_ | refine kround_exit ?_ | refine kround_ret ?_ | refine kround_next ?_ | refine kloop_ret ?_ | refine kloop_exit ?_ | refine kcut_ret ?_ | refine kcut_exit ?_ | refine xo0 4000 rfl ?_ ?_ | refine xw0 4000 rfl ?_ ?_ | exact qq | fail)
            rw [hw]
            exact kloop_next (st' := ⟨[(1, vi net), (3, vOs n g), (10, vi pt), (12, vi lw), (13, slP (kp + 1 + 1) 0), (14, slP ko 1), (54, vOs n g), (55, vi n), (56, vi ((i + 1 : Nat) : Int))], [vRow cN 1 (kp + 1 + 1) (lF 0 (ixS i (pP g) ++ [i])), vRow cN 1 ko (lF 0 (ixS i (pO g)))]⟩) (n - (i + 1)) (can_rowsv [4, 1] (k0_sel hk rfl) rfl (.cons rfl (by first | exact app_l cN_cl (by assumption) rfl rfl | exact app_l0 cN_cl (by assumption) rfl) (.cons rfl (RowEq.cl (v_cl cN_cl _ _ _)) .nil)) (by (repeat (first | refine ⟨PEq.refl _, ?_⟩ | refine ⟨peq_slP rfl, ?_⟩)); exact trivial)) (by omega) ⟨i + 1, kp + 1 + 1, ko, by omega, by rw [e1]; exact hlen', by rw [e2]; exact hko, hle', hko6, rfl, by rw [e1, e2]⟩
        · have hc4 : (g i).rk ≠ 0 := by have hc4 : ((g i).rk == 0) = false := hc4; simpa using hc4
          have e1 : ixS (i + 1) (pP g) = ixS i (pP g) := by rw [ixS_succ, if_neg (by simp [pP, hc4])]; simp
          have e2 : ixS (i + 1) (pO g) = ixS i (pO g) ++ [i] := by rw [ixS_succ, if_pos (by simp [pO, hc4])]
          have hlen' : (ixS i (pO g) ++ [i]).length = ko + 1 := by rw [List.length_append, hko]; rfl
          have hle' : ko + 1 ≤ 16 := by omega
          rcases ko with _ | ko
          · repeat' (first | refine xo 4000 rfl ?_ ?_ | refine xw 4000 rfl ?_ ?_ | refine xk 4000 rfl ?_ ?_ | exact trivial | ((with_reducible (show AllP (_ :: _))); refine And.intro ?_ ?_) | refine xs rfl ?_ ?_ | refine xs_done ?_ | refine pcond_t rfl ?_ | refine pcond_f rfl ?_ | refine kround_exit ?_ | refine kround_ret ?_ | refine kround_next ?_ | refine kloop_ret ?_ | refine kloop_exit ?_ | refine kcut_ret ?_ | refine kcut_exit ?_ | refine xo0 4000 rfl ?_ ?_ | refine xw0 4000 rfl ?_ ?_ | exact qq | fail)
            rw [hw]
            exact kloop_next (st' := ⟨[(1, vi net), (3, vOs n g), (10, vi pt), (12, vi lw), (13, slP kp 0), (14, slP (0 + 1) 1), (54, vOs n g), (55, vi n), (56, vi ((i + 1 : Nat) : Int))], [vRow cN 1 kp (lF 0 (ixS i (pP g))), vRow cN 1 (0 + 1) (lF 0 (ixS i (pO g) ++ [i]))]⟩) (n - (i + 1)) (can_rowsv [0, 4] (k0_sel hk rfl) rfl (.cons rfl (RowEq.cl (v_cl cN_cl _ _ _)) (.cons rfl (by first | exact app_l cN_cl (by assumption) rfl rfl | exact app_l0 cN_cl (by assumption) rfl) .nil)) (by (repeat (first | refine ⟨PEq.refl _, ?_⟩ | refine ⟨peq_slP rfl, ?_⟩)); exact trivial)) (by omega) ⟨i + 1, kp, 0 + 1, by omega, by rw [e1]; exact hkp, by rw [e2]; exact hlen', hkp6, hle', rfl, by rw [e1, e2]⟩
          · repeat' (first | refine xo 4000 rfl ?_ ?_ | refine xw 4000 rfl ?_ ?_ | refine xk 4000 rfl ?_ ?_ | exact trivial | ((with_reducible (show AllP (_ :: _))); refine And.intro ?_ ?_) | refine xs rfl ?_ ?_ | refine xs_done ?_ | refine pcond_t rfl ?_ | refine pcond_f rfl ?_ | refine kround_exit ?_ | refine kround_ret ?_ | refine kround_next ?_ | refine kloop_ret ?_ | refine kloop_exit ?_ | refine kcut_ret ?_ | refine kcut_exit ?_ | refine xo0 4000 rfl ?_ ?_ | refine xw0 4000 rfl ?_ ?_ | exact qq | fail)
            rw [hw]
            exact kloop_next (st' := ⟨[(1, vi net), (3, vOs n g), (10, vi pt), (12, vi lw), (13, slP kp 0), (14, slP (ko + 1 + 1) 1), (54, vOs n g), (55, vi n), (56, vi ((i + 1 : Nat) : Int))], [vRow cN 1 kp (lF 0 (ixS i (pP g))), vRow cN 1 (ko + 1 + 1) (lF 0 (ixS i (pO g) ++ [i]))]⟩) (n - (i + 1)) (can_rowsv [0, 4] (k0_sel hk rfl) rfl (.cons rfl (RowEq.cl (v_cl cN_cl _ _ _)) (.cons rfl (by first | exact app_l cN_cl (by assumption) rfl rfl | exact app_l0 cN_cl (by assumption) rfl) .nil)) (by (repeat (first | refine ⟨PEq.refl _, ?_⟩ | refine ⟨peq_slP rfl, ?_⟩)); exact trivial)) (by omega) ⟨i + 1, kp, ko + 1 + 1, by omega, by rw [e1]; exact hkp, by rw [e2]; exact hlen', hkp6, hle', rfl, by rw [e1, e2]⟩
      · have hin : i = n := by omega
        subst hin
        have hw1 : IntKind.i64.wrap (net - lw) = net - lw := w64 (by omega) (by omega)
        have hw2 : IntKind.i64.wrap (net - pt) = net - pt := w64 (by omega) (by omega)
        have sv1 := serve_c i g hO (pP g) (key_p hO) (net - lw) (by omega) (by omega) (fun _ => 0)
        rw [hkp] at sv1
        have t1b : ∀ j, j < i → 0 ≤ tk1S x net k i g j ∧ tk1S x net k i g j ≤ 1000000001 := fun j hj => by
          unfold tk1S; split
          · exact tk_bd hO (pP g) (by rw [← hlw]; omega) hj
          · omega
        have eT1 : (fun j => if j ∈ ixS i (pP g) then tkS i (keyO g) (clO g) (pP g) (net - lw) j else (fun _ => (0 : Int)) j) = tk1S x net k i g := by rw [hlw]; rfl
        have eT2 : (fun j => if j ∈ ixS i (pO g) then tkS i (keyO g) (clO g) (pO g) (freeS x net k i g) j else tk1S x net k i g j) = tkA x net k i g := rfl
        have hsum1 : ∀ q, q ≤ i → 0 ≤ sumN q (tk1S x net k i g) ∧ sumN q (tk1S x net k i g) ≤ q * 1000000001 := fun q hq => by
          refine ⟨sumN_nonneg fun a ha => (t1b a (by omega)).1, ?_⟩
          have := sumN_le (n := q) (f := tk1S x net k i g) (g := fun _ => 1000000001) fun a ha => (t1b a (by omega)).2
          rw [sumN_const] at this; exact this
        have hfr : 0 ≤ freeS x net k i g ∧ freeS x net k i g ≤ 1000000000 := by
          have := hsum1 i (Nat.le_refl _)
          exact mx0_bd (by rw [← hpt]; omega) (by omega)
        have sv2 := serve_c i g hO (pO g) (key_o hO) (freeS x net k i g) hfr.1 hfr.2 (tk1S x net k i g)
        rw [hko, eT2] at sv2
        rw [eT1] at sv1
        have argP : ∀ {mem : List Row} {L : List Nat} {l : Nat}, rowAt mem l = some (vRow cN 1 kp (lF 0 (ixS i (pP g)))) → l ∈ L → ArgOk mem L (slP kp l) (.vsl kp 1 (tI (lN (ixS i (pP g))))) := fun h1 h2 => argTN (arg_v cN_cl h1 h2)
        have argO : ∀ {mem : List Row} {L : List Nat} {l : Nat}, rowAt mem l = some (vRow cN 1 ko (lF 0 (ixS i (pO g)))) → l ∈ L → ArgOk mem L (slP ko l) (.vsl ko 1 (tI (lN (ixS i (pO g))))) := fun h1 h2 => argTN (arg_v cN_cl h1 h2)
        refine pcan (can_frz [0, 1] (by have h0 : Γ.k0 = 0 := hk; rw [h0]; intro l hl; exact Nat.zero_le _) rfl (tm := [(1, vi net), (3, vOs i g), (10, vi pt), (12, vi lw), (13, .vsl kp 1 (tI (lN (ixS i (pP g))))), (14, .vsl ko 1 (tI (lN (ixS i (pO g)))))]) (by exact ⟨.inl rfl, .inl rfl, .inl rfl, .inl rfl, .inr (argP rfl (by decide)), .inr (argO rfl (by decide)), trivial⟩)) ?_
        refine pcan (st' := ⟨[(1, vi net), (3, vOs i g), (10, vi pt), (12, vi lw), (13, .vsl kp 1 (tI (lN (ixS i (pP g))))), (14, .vsl ko 1 (tI (lN (ixS i (pO g)))))], []⟩) (can_rowsv [] (k0_sel hk rfl) rfl (by (repeat (refine SelV.cons rfl rqq ?_)); exact SelV.nil) tmq) ?_
        repeat' (first | refine xo 4000 rfl ?_ ?_ | refine xw 4000 rfl ?_ ?_ | refine xk 4000 rfl ?_ ?_ | exact trivial | ((with_reducible (show AllP (_ :: _))); refine And.intro ?_ ?_) | refine xs rfl ?_ ?_ | refine xs_done ?_ | refine pcond_t rfl ?_ | refine pcond_f rfl ?_ | refine kround_exit ?_ | refine kround_ret ?_ | refine kround_next ?_ | refine kloop_ret ?_ | refine kloop_exit ?_ | refine kcut_ret ?_ | refine kcut_exit ?_ | refine xo0 4000 rfl ?_ ?_ | refine xw0 4000 rfl ?_ ?_ | exact qq | fail)
        rw [hw1]
        refine ocan (st' := ⟨[(1, vi net), (3, vOs i g), (10, vi pt), (14, .vsl ko 1 (tI (lN (ixS i (pO g))))), (17, .lsl 0 0 i), (76, vOs i g), (77, .vsl kp 1 (tI (lN (ixS i (pP g))))), (80, vi (net - lw)), (81, .lsl 0 0 i)], [iRow i (fun _ => 0)]⟩) (can_rowsv [0] (k0_sel hk rfl) rfl (.cons rfl (i_eq (Nat.le_refl _) (fun _ _ => rfl)) .nil) (by (repeat refine ⟨PEq.refl _, ?_⟩); exact trivial)) ?_
        refine pop_rowsc [0] rfl rfl rfl rfl rfl rfl (.cons rfl trivial (RowEq.cl (i_cl _ _)) .nil) sv1 (by exact ⟨PEq.refl _, PEq.refl _, PEq.refl _, PEq.refl _, trivial⟩) ?_
        rintro r rows ⟨rfl, rfl⟩
        refine ⟨_, _, rfl, ⟨i_cl _ _, trivial⟩, rfl, ?_⟩
        repeat' (first | refine xo 4000 rfl ?_ ?_ | refine xw 4000 rfl ?_ ?_ | refine xk 4000 rfl ?_ ?_ | exact trivial | ((with_reducible (show AllP (_ :: _))); refine And.intro ?_ ?_) | refine xs rfl ?_ ?_ | refine xs_done ?_ | refine pcond_t rfl ?_ | refine pcond_f rfl ?_ | refine kround_exit ?_ | refine kround_ret ?_ | refine kround_next ?_ | refine kloop_ret ?_ | refine kloop_exit ?_ | refine kcut_ret ?_ | refine kcut_exit ?_ | refine xo0 4000 rfl ?_ ?_ | refine xw0 4000 rfl ?_ ?_ | exact qq | fail)
        rw [hw2]
        refine pcan (st' := ⟨[(3, vOs i g), (14, .vsl ko 1 (tI (lN (ixS i (pO g))))), (17, .lsl 0 0 i), (19, vi (net - pt)), (89, .lsl 0 0 i), (90, vi i), (91, vi 0)], [iRow i (tk1S x net k i g)]⟩) (can_rowsv [0] (k0_sel hk rfl) rfl (by (repeat (refine SelV.cons rfl rqq ?_)); exact SelV.nil) tmq) ?_
        refine ploop (fun q st => ∃ j : Nat, j ≤ i ∧ q = i - j ∧ st = ⟨[(3, vOs i g), (14, .vsl ko 1 (tI (lN (ixS i (pO g))))), (17, .lsl 0 0 i), (19, vi (net - pt - sumN j (tk1S x net k i g))), (89, .lsl 0 0 i), (90, vi i), (91, vi j)], [iRow i (tk1S x net k i g)]⟩) i ⟨0, by omega, rfl, by simp [sumN]⟩ ?_
        rintro _ _ ⟨j, hj, rfl, rfl⟩
        have hsj := hsum1 j hj
        repeat' (first | refine xo 4000 rfl ?_ ?_ | refine xw 4000 rfl ?_ ?_ | refine xk 4000 rfl ?_ ?_ | exact trivial | ((with_reducible (show AllP (_ :: _))); refine And.intro ?_ ?_) | refine xs rfl ?_ ?_ | refine xs_done ?_ | refine pcond_t rfl ?_ | refine pcond_f rfl ?_ | refine kround_exit ?_ | refine kround_ret ?_ | refine kround_next ?_ | refine kloop_ret ?_ | refine kloop_exit ?_ | refine kcut_ret ?_ | refine kcut_exit ?_ | refine xo0 4000 rfl ?_ ?_ | refine xw0 4000 rfl ?_ ?_ | exact qq | fail)
        refine pcond rfl ?_ ?_ <;> intro hc5 <;> simp at hc5
        · have hw5 : IntKind.i64.wrap ((j : Int) + 1) = ((j + 1 : Nat) : Int) := w64 (by omega) (by omega)
          have htj := t1b j hc5
          have hw6 : IntKind.i64.wrap (net - pt - sumN j (tk1S x net k i g) - tk1S x net k i g (0 + (j : Int).toNat)) = net - pt - sumN (j + 1) (tk1S x net k i g) := by
            rw [show 0 + (j : Int).toNat = j by omega, w64 (by omega) (by omega), sumN]; omega
          repeat' (first | refine xo 4000 rfl ?_ ?_ | refine xw 4000 rfl ?_ ?_ | refine xk 4000 rfl ?_ ?_ | exact trivial | ((with_reducible (show AllP (_ :: _))); refine And.intro ?_ ?_) | refine xs rfl ?_ ?_ | refine xs_done ?_ | refine pcond_t rfl ?_ | refine pcond_f rfl ?_ | refine kround_exit ?_ | refine kround_ret ?_ | refine kround_next ?_ | refine kloop_ret ?_ | refine kloop_exit ?_ | refine kcut_ret ?_ | refine kcut_exit ?_ | refine xo0 4000 rfl ?_ ?_ | refine xw0 4000 rfl ?_ ?_ | exact qq | fail)
          rw [hw5, hw6]
          exact kloop_next (st' := ⟨[(3, vOs i g), (14, .vsl ko 1 (tI (lN (ixS i (pO g))))), (17, .lsl 0 0 i), (19, vi (net - pt - sumN (j + 1) (tk1S x net k i g))), (89, .lsl 0 0 i), (90, vi i), (91, vi ((j + 1 : Nat) : Int))], [iRow i (tk1S x net k i g)]⟩) (i - (j + 1)) (can_rowsv [0] (k0_sel hk rfl) rfl (by (repeat (refine SelV.cons rfl rqq ?_)); exact SelV.nil) tmq) (by omega) ⟨j + 1, by omega, rfl, rfl⟩
        · have hji : j = i := by omega
          rw [hji]
          have efr : (if net - pt - sumN i (tk1S x net k i g) < 0 then 0 else net - pt - sumN i (tk1S x net k i g)) = freeS x net k i g := by rw [hpt]; rfl
          repeat' (first | refine xo 4000 rfl ?_ ?_ | refine xw 4000 rfl ?_ ?_ | refine xk 4000 rfl ?_ ?_ | exact trivial | ((with_reducible (show AllP (_ :: _))); refine And.intro ?_ ?_) | refine xs rfl ?_ ?_ | refine xs_done ?_ | refine pcond_t rfl ?_ | refine pcond_f rfl ?_ | refine kround_exit ?_ | refine kround_ret ?_ | refine kround_next ?_ | refine kloop_ret ?_ | refine kloop_exit ?_ | refine kcut_ret ?_ | refine kcut_exit ?_ | refine xo0 4000 rfl ?_ ?_ | refine xw0 4000 rfl ?_ ?_ | exact qq | fail)
          rw [efr]
          refine pop_rowsc [0] rfl rfl rfl rfl rfl rfl (.cons rfl trivial (RowEq.cl (i_cl _ _)) .nil) sv2 (by exact ⟨PEq.refl _, PEq.refl _, PEq.refl _, PEq.refl _, trivial⟩) ?_
          rintro r rows ⟨rfl, rfl⟩
          refine ⟨_, _, rfl, ⟨i_cl _ _, trivial⟩, rfl, ?_⟩
          obtain ⟨T, hT⟩ : ∃ T, T = tkA x net k i g := ⟨_, rfl⟩
          rw [← hT]
          repeat' (first | refine xo 4000 rfl ?_ ?_ | refine xw 4000 rfl ?_ ?_ | refine xk 4000 rfl ?_ ?_ | exact trivial | ((with_reducible (show AllP (_ :: _))); refine And.intro ?_ ?_) | refine xs rfl ?_ ?_ | refine xs_done ?_ | refine pcond_t rfl ?_ | refine pcond_f rfl ?_ | refine kround_exit ?_ | refine kround_ret ?_ | refine kround_next ?_ | refine kloop_ret ?_ | refine kloop_exit ?_ | refine kcut_ret ?_ | refine kcut_exit ?_ | refine xo0 4000 rfl ?_ ?_ | refine xw0 4000 rfl ?_ ?_ | exact qq | fail)
          refine pcan (can_virt (vRow cE 2 0 (lF dE (eltS g T 0))) rfl) ?_
          refine pcan (st' := ⟨[(17, .lsl 0 0 i), (23, slP 0 1), (108, vOs i g), (109, vi i), (110, vi 0)], [iRow i T, vRow cE 2 0 (lF dE (eltS g T 0))]⟩) (can_rowsv [0,1] (k0_sel hk rfl) rfl (by (repeat (refine SelV.cons rfl rqq ?_)); exact SelV.nil) tmq) ?_
          refine ploop (fun q st => ∃ (j ke : Nat), j ≤ i ∧ (eltS g T j).length = ke ∧ ke ≤ 16 ∧ q = i - j ∧ st = ⟨[(17, .lsl 0 0 i), (23, slP ke 1), (108, vOs i g), (109, vi i), (110, vi j)], [iRow i T, vRow cE 2 ke (lF dE (eltS g T j))]⟩) i ⟨0, 0, by omega, rfl, by omega, rfl, rfl⟩ ?_
          rintro _ _ ⟨j, ke, hj2, hke, hke6, rfl, rfl⟩
          have hel : (eltS g T j).length ≤ j := by unfold eltS; rw [List.length_map]; exact Nat.le_trans (List.length_filter_le _ _) (by simp)
          repeat' (first | refine xo 4000 rfl ?_ ?_ | refine xw 4000 rfl ?_ ?_ | refine xk 4000 rfl ?_ ?_ | exact trivial | ((with_reducible (show AllP (_ :: _))); refine And.intro ?_ ?_) | refine xs rfl ?_ ?_ | refine xs_done ?_ | refine pcond_t rfl ?_ | refine pcond_f rfl ?_ | refine kround_exit ?_ | refine kround_ret ?_ | refine kround_next ?_ | refine kloop_ret ?_ | refine kloop_exit ?_ | refine kcut_ret ?_ | refine kcut_exit ?_ | refine xo0 4000 rfl ?_ ?_ | refine xw0 4000 rfl ?_ ?_ | exact qq | fail)
          refine pcond rfl ?_ ?_ <;> intro hc6 <;> simp at hc6
          · have hw5 : IntKind.i64.wrap ((j : Int) + 1) = ((j + 1 : Nat) : Int) := w64 (by omega) (by omega)
            repeat' (first | refine xo 4000 rfl ?_ ?_ | refine xw 4000 rfl ?_ ?_ | refine xk 4000 rfl ?_ ?_ | exact trivial | ((with_reducible (show AllP (_ :: _))); refine And.intro ?_ ?_) | refine xs rfl ?_ ?_ | refine xs_done ?_ | refine pcond_t rfl ?_ | refine pcond_f rfl ?_ | refine kround_exit ?_ | refine kround_ret ?_ | refine kround_next ?_ | refine kloop_ret ?_ | refine kloop_exit ?_ | refine kcut_ret ?_ | refine kcut_exit ?_ | refine xo0 4000 rfl ?_ ?_ | refine xw0 4000 rfl ?_ ?_ | exact qq | fail)
            refine pcond rfl ?_ ?_ <;> intro hc7
            · have hc7 : 0 < T j := by have hc7 : decide (0 < T (0 + (j : Int).toNat)) = true := hc7; rw [show 0 + (j : Int).toNat = j by omega] at hc7; simpa using hc7
              have e1 : eltS g T (j + 1) = eltS g T j ++ [⟨(g j).id, T j⟩] := by rw [eltS_succ, if_pos hc7]
              have hlen' : (eltS g T j ++ [(⟨(g j).id, T j⟩ : Elt)]).length = ke + 1 := by rw [List.length_append, hke]; rfl
              have hle' : ke + 1 ≤ 16 := by omega
              rcases ke with _ | ke
              · repeat' (first | refine xo 4000 rfl ?_ ?_ | refine xw 4000 rfl ?_ ?_ | refine xk 4000 rfl ?_ ?_ | exact trivial | ((with_reducible (show AllP (_ :: _))); refine And.intro ?_ ?_) | refine xs rfl ?_ ?_ | refine xs_done ?_ | refine xs_start (id := 35) true [.take 0, .take 1, .take 2, .take 3, .take 4, .take 5, .take 6, .take 7, .one 8, .one 9, .take 10] 0 rfl rfl (by kernel_rfl) ?_ | refine pcond_t rfl ?_ | refine pcond_f rfl ?_ | refine kround_exit ?_ | refine kround_ret ?_ | refine kround_next ?_ | refine kloop_ret ?_ | refine kloop_exit ?_ | refine kcut_ret ?_ | refine kcut_exit ?_ | refine xo0 4000 rfl ?_ ?_ | refine xw0 4000 rfl ?_ ?_ | exact qq | fail)
                rw [hw5, show 0 + (j : Int).toNat = j by omega]
                exact kloop_next (st' := ⟨[(17, .lsl 0 0 i), (23, slP (0 + 1) 1), (108, vOs i g), (109, vi i), (110, vi ((j + 1 : Nat) : Int))], [iRow i T, vRow cE 2 (0 + 1) (lF dE (eltS g T j ++ [⟨(g j).id, T j⟩]))]⟩) (i - (j + 1)) (can_rowsv [0,4] (k0_sel hk rfl) rfl (by (repeat (refine SelV.cons rfl rqq ?_)); exact SelV.nil) tmq) (by omega) ⟨j + 1, 0 + 1, by omega, by rw [e1]; exact hlen', hle', rfl, by rw [e1]⟩
              · repeat' (first | refine xo 4000 rfl ?_ ?_ | refine xw 4000 rfl ?_ ?_ | refine xk 4000 rfl ?_ ?_ | exact trivial | ((with_reducible (show AllP (_ :: _))); refine And.intro ?_ ?_) | refine xs rfl ?_ ?_ | refine xs_done ?_ | refine xs_start (id := 35) true [.take 0, .take 1, .take 2, .take 3, .take 4, .take 5, .take 6, .take 7, .one 8, .one 9, .take 10] 0 rfl rfl (by kernel_rfl) ?_ | refine pcond_t rfl ?_ | refine pcond_f rfl ?_ | refine kround_exit ?_ | refine kround_ret ?_ | refine kround_next ?_ | refine kloop_ret ?_ | refine kloop_exit ?_ | refine kcut_ret ?_ | refine kcut_exit ?_ | refine xo0 4000 rfl ?_ ?_ | refine xw0 4000 rfl ?_ ?_ | exact qq | fail)
                rw [hw5, show 0 + (j : Int).toNat = j by omega]
                exact kloop_next (st' := ⟨[(17, .lsl 0 0 i), (23, slP (ke + 1 + 1) 1), (108, vOs i g), (109, vi i), (110, vi ((j + 1 : Nat) : Int))], [iRow i T, vRow cE 2 (ke + 1 + 1) (lF dE (eltS g T j ++ [⟨(g j).id, T j⟩]))]⟩) (i - (j + 1)) (can_rowsv [0,4] (k0_sel hk rfl) rfl (by (repeat (refine SelV.cons rfl rqq ?_)); exact SelV.nil) tmq) (by omega) ⟨j + 1, ke + 1 + 1, by omega, by rw [e1]; exact hlen', hle', rfl, by rw [e1]⟩
            · have hc7 : ¬ 0 < T j := by have hc7 : decide (0 < T (0 + (j : Int).toNat)) = false := hc7; rw [show 0 + (j : Int).toNat = j by omega] at hc7; simpa using hc7
              have e1 : eltS g T (j + 1) = eltS g T j := by rw [eltS_succ, if_neg hc7]; simp
              repeat' (first | refine xo 4000 rfl ?_ ?_ | refine xw 4000 rfl ?_ ?_ | refine xk 4000 rfl ?_ ?_ | exact trivial | ((with_reducible (show AllP (_ :: _))); refine And.intro ?_ ?_) | refine xs rfl ?_ ?_ | refine xs_done ?_ | refine pcond_t rfl ?_ | refine pcond_f rfl ?_ | refine kround_exit ?_ | refine kround_ret ?_ | refine kround_next ?_ | refine kloop_ret ?_ | refine kloop_exit ?_ | refine kcut_ret ?_ | refine kcut_exit ?_ | refine xo0 4000 rfl ?_ ?_ | refine xw0 4000 rfl ?_ ?_ | exact qq | fail)
              rw [hw5]
              exact kloop_next (st' := ⟨[(17, .lsl 0 0 i), (23, slP ke 1), (108, vOs i g), (109, vi i), (110, vi ((j + 1 : Nat) : Int))], [iRow i T, vRow cE 2 ke (lF dE (eltS g T j))]⟩) (i - (j + 1)) (can_rowsv [0,1] (k0_sel hk rfl) rfl (by (repeat (refine SelV.cons rfl rqq ?_)); exact SelV.nil) tmq) (by omega) ⟨j + 1, ke, by omega, by rw [e1]; exact hke, hke6, rfl, by rw [e1]⟩
          · have hji2 : j = i := by omega
            rw [hji2] at hke ⊢
            rcases ke with _ | ke
            · repeat' (first | refine xo 4000 rfl ?_ ?_ | refine xw 4000 rfl ?_ ?_ | refine xk 4000 rfl ?_ ?_ | exact trivial | ((with_reducible (show AllP (_ :: _))); refine And.intro ?_ ?_) | refine xs rfl ?_ ?_ | refine xs_done ?_ | refine pcond_t rfl ?_ | refine pcond_f rfl ?_ | refine kround_exit ?_ | refine kround_ret ?_ | refine kround_next ?_ | refine kloop_ret ?_ | refine kloop_exit ?_ | refine kcut_ret ?_ | refine kcut_exit ?_ | refine xo0 4000 rfl ?_ ?_ | refine xw0 4000 rfl ?_ ?_ | exact qq | fail)
              have e0 : eltS g T i = [] := List.length_eq_zero_iff.1 hke
              rw [e0]
              exact kret [] rfl ⟨trivial, trivial, trivial⟩ (qs := [vEs [], vi 0]) nilE rfl
            · repeat' (first | refine xo 4000 rfl ?_ ?_ | refine xw 4000 rfl ?_ ?_ | refine xk 4000 rfl ?_ ?_ | exact trivial | ((with_reducible (show AllP (_ :: _))); refine And.intro ?_ ?_) | refine xs rfl ?_ ?_ | refine xs_done ?_ | refine pcond_t rfl ?_ | refine pcond_f rfl ?_ | refine kround_exit ?_ | refine kround_ret ?_ | refine kround_next ?_ | refine kloop_ret ?_ | refine kloop_exit ?_ | refine kcut_ret ?_ | refine kcut_exit ?_ | refine xo0 4000 rfl ?_ ?_ | refine xw0 4000 rfl ?_ ?_ | exact qq | fail)
              refine kret [1] rfl ⟨trivial, trivial, trivial⟩ (qs := [.vsl (ke + 1) 2 (tF cE (lF dE (eltS g T i))), vi 0]) ⟨arg_o (s := .own) cE_cl rfl trivial (List.Mem.head _), argVal, trivial⟩ ?_
              show pack [.vsl (ke + 1) 2 (tF cE (lF dE (eltS g T i))), vi 0] = _
              rw [← hke]; rfl
end Go.Proofs.Ytipdkompinnghaa
