/- payrolllaw22.ValueLocal: the region that appends scales and pasts. -/
import Derived.Test.YtcghpepighboaaaDoorEnv22
import Derived.Test.YtcghpepighboaaaDoorPvF
import Derived.Test.YtcghpepighboaaaDoorPvK
set_option linter.unusedSimpArgs false
set_option linter.unusedVariables false
set_option maxRecDepth 100000
namespace Go.Proofs.YtcghpepighboaaaDoor
abbrev rXE (e : Ex) : Row := ⟨.own, true, 1, 10, fun _ => nthP (cX e)⟩
theorem rXE_cl (e : Ex) : rowCl (rXE e) := fun i _ j _ => clL_nth _ j (cX_cl e)
abbrev rRt (a b : Int) : Row := ⟨.own, true, 1, 2, fun _ => nthP [vi a, vi b]⟩
def headS : Code → Code
  | .seq a _ => a
  | c => c
abbrev pGr : Pa := ⟨n_gross, 0, fun _ => (0, 0)⟩
abbrev rGr : Row := ⟨.own, false, 1, 2, fun x y => nthP [vs n_gross, .val (.slice none 0 0)] (x * 2 + y)⟩
theorem rGr_cl : rowCl rGr := fun i _ j _ => clL_nth _ _ ⟨trivial, trivial, trivial⟩
theorem rRt_cl (a b : Int) : rowCl (rRt a b) := fun i _ j _ => clL_nth _ _ ⟨trivial, trivial, trivial⟩
abbrev rDn (d : Df) : Row := ⟨.own, false, 1, 21, fun x y => nthP (cD d) (x * 21 + y)⟩
theorem rDn_cl (d : Df) : rowCl (rDn d) := fun i _ j _ => clL_nth _ _ (cD_cl d)
theorem rDn_eq {τ : Nat → Option Nat} {d : Df} : RowEq ((rDn d).ren τ) (rDn d) := RowEq.cl (rDn_cl d)
def pnF (P : List Pa) : Nat → Nat → PV := appF P.length (fun x => tF cPa (lF dPa P) (0 + x)) (fun x b => nthP [vs n_gross, .val (.slice none 0 0)] ((0 + x) * 2 + b))
abbrev rPn (P : List Pa) : Row := ⟨.own, false, P.length + 1, 2, pnF P⟩
theorem rPn_cl (P : List Pa) : rowCl (rPn P) := fun i _ j _ => by
  show Cl (pnF P i j)
  unfold pnF
  by_cases e1 : i < P.length
  · rw [appF_lt _ _ e1]; exact tF_cl cPa_cl _ _ j
  · rw [appF_ge _ _ (by omega)]; exact clL_nth _ _ ⟨trivial, trivial, trivial⟩
theorem rPn_eq {τ : Nat → Option Nat} (P : List Pa) {f : Nat → Nat → PV} (hf : f = pnF P) : RowEq (Row.ren τ ⟨.own, false, P.length + 1, 2, f⟩) (rPn P) := by
  subst hf; exact RowEq.cl (rPn_cl P)
theorem argPn {mem : List Row} {L : List Nat} {r : Nat} {P : List Pa} (hr : rowAt mem r = some (rPn P)) (hL : r ∈ L) : ArgOk mem L (.lsl r 0 (P.length + 1)) (vPas (P ++ [pGr])) := by
  have hl : (P ++ [pGr]).length = P.length + 1 := by rw [List.length_append]; rfl
  show ArgOk mem L (.lsl r 0 (P.length + 1)) (.vsl (P ++ [pGr]).length 2 (tF cPa (lF dPa (P ++ [pGr]))))
  rw [hl]
  have key : ∀ a, a < P.length + 1 → ∀ b, b < 2 → ArgOk mem L (pnF P a b) (nthP (cPa (lF dPa (P ++ [pGr]) a)) b) := fun a ha b hb => by
    unfold pnF
    by_cases e1 : a < P.length
    · rw [appF_lt _ _ e1, lF_lt e1, Nat.zero_add]
      exact argCl (tF_cl cPa_cl _ a b)
    · obtain rfl : a = P.length := by omega
      rw [appF_ge _ _ (Nat.le_refl _), lF_at, Nat.sub_self]
      show ArgOk mem L (nthP _ ((0 + 0) * _ + b)) _
      rw [show (0 + 0) * 2 + b = b by omega]
      rcases c2 hb with rfl | rfl
      · exact argVal
      · exact argNil
  exact argLsl' (r := rPn P) hr trivial hL (by simp) fun a ha b hb => by rw [Nat.zero_add]; exact key a ha b hb
theorem argDl {mem : List Row} {L : List Nat} {r : Nat} {S : List Df} {d : Df} (hr : rowAt mem r = some (oRow cD 21 (S.length + 1) (lF dD (S ++ [d])))) (hL : r ∈ L) : ArgOk mem L (.lsl r 0 (S.length + 1)) (vDs (S ++ [d])) := by
  have hl : (S ++ [d]).length = S.length + 1 := by rw [List.length_append]; rfl
  show ArgOk mem L (.lsl r 0 (S.length + 1)) (.vsl (S ++ [d]).length 21 (tF cD (lF dD (S ++ [d]))))
  rw [hl]
  exact arg_o (s := .own) cD_cl hr trivial hL
def rOps : Code → Array Oper
  | .region _ ops _ => ops
  | _ => #[]
section
variable (n : Nat) (g : Nat → Int) (N1 N2 : List In) (S : List Df) (P : List Pa) (e : Ex) (EV : RE)
def cS (k : Nat) (d : Df) : List Row := match k with
  | 0 => []
  | 1 => [oRow cD 21 0 (lF dD [])]
  | 2 => [oRow cD 21 S.length (lF dD S)]
  | 3 => [oRow cD 21 S.length (lF dD S)]
  | 4 => [oRow cD 21 S.length (lF dD S), rDn d]
  | _ => [oRow cD 21 (S.length + 1) (lF dD (S ++ [d]))]
def pS (k : Nat) (p : Bool) : List Row := match k with
  | 7 => [rPn P]
  | 6 => [oRow cPa 2 P.length (lF dPa P)]
  | _ => cond p [oRow cPa 2 0 (lF dPa [])] []
def gS (k : Nat) (q : Bool) : List Row := match k with
  | 7 => []
  | _ => cond q [rGr] []
def nP (k : Nat) : Nat := match k with
  | 0 => 3
  | 4 => 5
  | _ => 4
def nGr (k : Nat) (p : Bool) : Nat := cond p (nP k + 1) (nP k)
def nZ (k : Nat) (p q : Bool) : Nat := match k with
  | 7 => nGr 7 p
  | k => cond q (nGr k p + 1) (nGr k p)
abbrev rowsL (k : Nat) (p q z : Bool) (at_ : Int) (d : Df) : List Row := tapeRow n g at_ :: rXE e :: rRt EV.1.1 EV.1.2 :: (cS S k d ++ (pS P k p ++ (gS k q ++ cond z [rRt 0 0] [])))
def cTm (k : Nat) (d : Df) : List (Nat × PV) := match k with
  | 0 => [(71, vDs S), (73, .ptr 0 0 0), (74, vT t0)]
  | 1 => [(70, .lsl 3 0 0), (71, vDs S), (73, .ptr 0 0 0), (74, vT t0)]
  | 2 => [(72, .lsl 3 0 S.length), (73, .ptr 0 0 0), (74, vT t0)]
  | 3 => [(72, .lsl 3 0 S.length), (75, vD d)]
  | 4 => [(72, .lsl 3 0 S.length), (76, .lsl 4 0 1)]
  | _ => [(77, .lsl 3 0 (S.length + 1))]
def pTm (k : Nat) (p : Bool) : List (Nat × PV) := match k with
  | 7 => [(83, .lsl 4 0 (P.length + 1))]
  | 6 => [(80, .lsl 4 0 P.length)]
  | k => (79, vPas P) :: cond p [(78, .lsl (nP k) 0 0)] []
def gTm (k : Nat) (p q : Bool) : List (Nat × PV) := match k with
  | 7 => []
  | k => cond q [(82, .lsl (nGr k p) 0 1)] [(81, .agg 2 (nthP [vs n_gross, .val (.slice none 0 0)]))]
abbrev tmL (k : Nat) (p q z : Bool) (d : Df) : List (Nat × PV) := [(5, .ptr 0 0 0), (7, vDs S), (8, vPas P), (9, .ptr 1 0 0), (10, .ptr 2 0 0), (11, vi EV.2), (13, vIns N2), (68, vX e), (69, vIns N1)] ++ (cTm S k d ++ (pTm P k p ++ (gTm k p q ++ cond z [(14, .ptr (nZ k p q) 0 0)] [])))
end
def LL (k : Nat) (p q z : Bool) : List Nat := [0, 1, 3, 5, 6, 11, 13] ++ ([2, 4, 7, 8, 9, 12, 15].take k ++ (cond p [10] [] ++ (cond q [14] [] ++ cond z [20] [])))
def mL (k : Nat) (p q z : Bool) : Nat := 23 - (LL k p q z).length
def av (k : Nat) (p q : Bool) : Bool := match k with
  | 5 => p
  | 6 => q
  | _ => true
def TL (k : Nat) (p q z : Bool) : List (Nat × Sched × Bool × Nat) := cond (av k p q) [([2, 4, 7, 8, 9, 12, 15, 16].getD k 0, [], false, mL k p q z - 1)] [] ++ (cond p [] [(10, [], false, mL k p q z - 1)] ++ (cond q [] [(14, [], false, mL k p q z - 1)] ++ cond z [] [(20, [], false, mL k p q z - 1)]))
def niL : Nat → Bool
  | 0 => true
  | 1 => true
  | 2 => true
  | _ => false
theorem svL {P : Prop} (h : P := by (repeat (refine SelV.cons rfl (by first | exact RowEq.cl (tape_cl _ _ _) | exact RowEq.cl (rXE_cl _) | exact RowEq.cl (rRt_cl _ _) | exact RowEq.cl (o_cl cD_cl _ _ _) | exact RowEq.cl (o_cl cPa_cl _ _ _) | exact RowEq.cl rGr_cl | exact RowEq.cl (rDn_cl _) | exact RowEq.cl (rPn_cl _) | exact o_eq cD_cl (Nat.le_refl _) (fun a ha => absurd ha (Nat.not_lt_zero a)) | exact o_eq cPa_cl (Nat.le_refl _) (fun a ha => absurd ha (Nat.not_lt_zero a)) | exact app_l cD_cl rfl rfl rfl | exact rPn_eq _ rfl | exact o_eq cD_cl (by omega) (fun a ha b hb => by rw [appF_ge _ _ (Nat.zero_le _), Nat.sub_zero]; rfl) | exact o_eq cPa_cl (by omega) (fun a ha b hb => by rw [appF_ge _ _ (Nat.zero_le _), Nat.sub_zero]; rfl)) ?_)); exact SelV.nil) : P := h
theorem tvL {P : Prop} (h : P := by (repeat (first | refine ⟨PEq.refl _, ?_⟩ | refine ⟨PEq.cl _ (clB_spec _ rfl), ?_⟩ | refine ⟨PEq.of (congrArg (PV.lsl _ 0) (Nat.zero_add _)), ?_⟩)); exact trivial) : P := h
def okK (k : Nat) (p q : Bool) : Bool := Nat.ble k 7 && ((Nat.blt k 6 || p) && (Nat.blt k 7 || q))
theorem sT {f a b : Nat} (h : 11 ≤ f + 1 + a) (e : b = a + 1 := by rfl) : 11 ≤ f + b := by omega
theorem n3 {k : Nat} {Q : Prop} (h : Nat.blt k 3 = true := by rfl) : 3 ≤ k → Q := fun h2 => by rw [Nat.blt_eq] at h; omega
theorem y3 {k k' : Nat} {Q : Prop} (h : 3 ≤ k → Q) (e : Nat.ble 3 k = true := by rfl) : 3 ≤ k' → Q := fun _ => h (Nat.le_of_ble_eq_true e)
theorem nw {G : Pg2} {N : Nat} {Γ : Fr} {st st' : PSt} {ops : Array Oper} {o : Oper} {H : List Nat} {i : Nat} {pr : Prop} {k : Bool → PSt → Prop} (hi : opAt ops.toList i = some o) (hc : chB H [] = true) (hs : stepOp G.tab G.eqs Γ.k0 N ops st o = some (st', pr, [])) (hp : pr) (hk : k true st') : ∃ o ch nk, opAt ops.toList i = some o ∧ chB H ch = true ∧ PStep G N Γ ops o st ch nk (k nk) := ⟨o, [], true, hi, hc, stepOp_pst hs hp hk⟩
theorem bL {G : Pg2} {N : Nat} {Γ : Fr} {st st1 : PSt} {K : Exit → PSt → Prop} {ops : Array Oper} {H : List Nat} {ni : Bool} {m : Nat} {ls : Array Bool} (L : List Nat) (T : List (Nat × Sched × Bool × Nat)) (h : BrAll G N Γ ops H ni L 23 st1 K T) (hf : fSt st = some st1 := by exact rfl) (hls : (ls == lsF L 23) = true := by decide +kernel) (hok : brOk ops (lsF L 23) m T = true := by kernel_rfl) (hH : inB st1.mem.length H = true := by kernel_rfl) : PS G N Γ ops H ni false [] (m + 1) ls st K := xs_brT (n := 23) L T hls hf hok hH h
theorem pc {G : Pg2} {N : Nat} {Γ : Fr} {K : Exit → PSt → Prop} {ops : Array Oper} {H : List Nat} {ni fin : Bool} {m : Nat} {ls ls' : Array Bool} {sch : Sched} {st : PSt} (sel : List Nat) {tm : List (Nat × PV)} {rows : List Row} (h : PS G N Γ ops H ni fin sch m ls' ⟨tm, rows⟩ K) (hk : Γ.k0 = 0 := by assumption) (hd : nodupB sel = true := by exact rfl) (hH : keepB sel H = true := by exact rfl) (hs : SelV st.mem sel sel rows := by exact svL) (ht : TmOk st sel tm := by exact tvL) (hls : (ls == ls') = true := by decide +kernel) : PS G N Γ ops H ni fin sch m ls st K := ps_can sel ⟨by omega, fun i h => by omega⟩ hd hH hs ht (ps_ls hls h)
set_option maxHeartbeats 40000000 in
theorem r9_all (n : Nat) (g : Nat → Int) (hn : n ≤ 9223372036854775807) (Γ : Fr) (hk : Γ.k0 = 0) (N1 N2 : List In) (S : List Df) (P : List Pa) (e : Ex) (EV : RE) (hSl : S.length ≤ 100) (hP2 : P.length = 2) (e1 : ∀ d, ScOk n_s t0 0 d → PureC G.P 25 [vX e, vIns N1, vDs (S ++ [d]), vPas (P ++ [pGr])] (fun r => r = vRE EV)) (K : Exit → PSt → Prop)
    (hK : ∀ (at_ : Int), 0 ≤ at_ → at_ ≤ n → ∀ st, Can Tryd.f6.ntmps Γ st ⟨[(5, .ptr 0 0 0), (7, vDs S), (8, vPas P), (9, .ptr 1 0 0), (10, .ptr 2 0 0), (11, vi EV.2), (13, vIns N2), (14, .ptr 3 0 0), (15, vi EV.2)], [tapeRow n g at_, rXE e, rRt EV.1.1 EV.1.2, rRt EV.1.1 EV.1.2]⟩ → K .normal st) :
    ∀ (fuel k : Nat) (p q z : Bool), 11 ≤ fuel + (k + p.toNat + q.toNat + z.toNat) → okK k p q = true → ∀ (at_ : Int) (d : Df), 0 ≤ at_ → at_ ≤ n → (3 ≤ k → ScOk n_s t0 0 d) →
      PS G Tryd.f6.ntmps Γ (rOps (headS (dropS 8 (Tryd.f6.body.getD .skip)))) [1] (niL k) false [] (mL k p q z) (lsF (LL k p q z) 23) ⟨tmL N1 N2 S P e EV k p q z d, rowsL n g S P e EV k p q z at_ d⟩ K
  | 0, k, p, q, z, h, ho, _, _, _, _, _ => by
    have h7 : k ≤ 7 := by
      cases hb : Nat.ble k 7 with
      | true => exact Nat.le_of_ble_eq_true hb
      | false => unfold okK at ho; rw [hb] at ho; cases ho
    cases p <;> cases q <;> cases z <;> simp at h <;> omega
  | fuel + 1, k, p, q, z, h, ho, at_, d, b1, b2, hd => by
    have h7 : k ≤ 7 := by
      cases hb : Nat.ble k 7 with
      | true => exact Nat.le_of_ble_eq_true hb
      | false => unfold okK at ho; rw [hb] at ho; cases ho
    have hk0 : Γ.k0 ≤ 3 := by rw [hk]; exact Nat.zero_le _
    have v0 : ∀ {x : Nat}, Γ.k0 ≤ x := by rw [hk]; exact Nat.zero_le _
    have v1 : ∀ {x : Nat}, 0 + x ≤ x := Nat.le_of_eq (Nat.zero_add _)
    have u1 : (0 + S.length) * 216 ≤ 140737488355328 := by omega
    have u2 : 0 + S.length ≤ 9223372036854775807 := by omega
    have u3 : (S.length + 1) * 216 ≤ 140737488355328 := by omega
    have u4 : S.length + 1 ≤ 9223372036854775807 := by omega
    have u5 : (0 + P.length) * 40 ≤ 140737488355328 := by omega
    have u6 : 0 + P.length ≤ 9223372036854775807 := by omega
    have u7 : (P.length + 1) * 40 ≤ 140737488355328 := by omega
    have u8 : P.length + 1 ≤ 9223372036854775807 := by omega
    have ih := r9_all n g hn Γ hk N1 N2 S P e EV hSl hP2 e1 K hK fuel
    rcases (by omega : k = 0 ∨ k = 1 ∨ k = 2 ∨ k = 3 ∨ k = 4 ∨ k = 5 ∨ k = 6 ∨ k = 7) with rfl | rfl | rfl | rfl | rfl | rfl | rfl | rfl
    · cases p <;> cases q <;> cases z
      · refine bL (LL 0 false false false) (TL 0 false false false) (.cons ?_ (.cons ?_ (.cons ?_ (.cons ?_ (.nil)))))
        · exact nw rfl rfl rfl trivial (by exact pc [0, 1, 2, 3] (ih 1 false false false (sT h) rfl _ d b1 b2 n3))
        · exact nw rfl rfl rfl trivial (by exact pc [0, 1, 2, 3] (ih 0 true false false (sT h) rfl _ d b1 b2 n3))
        · exact nw rfl rfl rfl trivial (by exact pc [0, 1, 2, 3] (ih 0 false true false (sT h) rfl _ d b1 b2 n3))
        · exact nw rfl rfl rfl trivial (by exact pc [0, 1, 2, 3] (ih 0 false false true (sT h) rfl _ d b1 b2 n3))
      · refine bL (LL 0 false false true) (TL 0 false false true) (.cons ?_ (.cons ?_ (.cons ?_ (.nil))))
        · exact nw rfl rfl rfl trivial (by exact pc [0, 1, 2, 4, 3] (ih 1 false false true (sT h) rfl _ d b1 b2 n3))
        · exact nw rfl rfl rfl trivial (by exact pc [0, 1, 2, 4, 3] (ih 0 true false true (sT h) rfl _ d b1 b2 n3))
        · exact nw rfl rfl rfl trivial (by exact pc [0, 1, 2, 4, 3] (ih 0 false true true (sT h) rfl _ d b1 b2 n3))
      · refine bL (LL 0 false true false) (TL 0 false true false) (.cons ?_ (.cons ?_ (.cons ?_ (.nil))))
        · exact nw rfl rfl rfl trivial (by exact pc [0, 1, 2, 4, 3] (ih 1 false true false (sT h) rfl _ d b1 b2 n3))
        · exact nw rfl rfl rfl trivial (by exact pc [0, 1, 2, 4, 3] (ih 0 true true false (sT h) rfl _ d b1 b2 n3))
        · exact nw rfl rfl rfl trivial (by exact pc [0, 1, 2, 3, 4] (ih 0 false true true (sT h) rfl _ d b1 b2 n3))
      · refine bL (LL 0 false true true) (TL 0 false true true) (.cons ?_ (.cons ?_ (.nil)))
        · exact nw rfl rfl rfl trivial (by exact pc [0, 1, 2, 5, 3, 4] (ih 1 false true true (sT h) rfl _ d b1 b2 n3))
        · exact nw rfl rfl rfl trivial (by exact pc [0, 1, 2, 5, 3, 4] (ih 0 true true true (sT h) rfl _ d b1 b2 n3))
      · refine bL (LL 0 true false false) (TL 0 true false false) (.cons ?_ (.cons ?_ (.cons ?_ (.nil))))
        · exact nw rfl rfl rfl trivial (by exact pc [0, 1, 2, 4, 3] (ih 1 true false false (sT h) rfl _ d b1 b2 n3))
        · exact nw rfl rfl rfl trivial (by exact pc [0, 1, 2, 3, 4] (ih 0 true true false (sT h) rfl _ d b1 b2 n3))
        · exact nw rfl rfl rfl trivial (by exact pc [0, 1, 2, 3, 4] (ih 0 true false true (sT h) rfl _ d b1 b2 n3))
      · refine bL (LL 0 true false true) (TL 0 true false true) (.cons ?_ (.cons ?_ (.nil)))
        · exact nw rfl rfl rfl trivial (by exact pc [0, 1, 2, 5, 3, 4] (ih 1 true false true (sT h) rfl _ d b1 b2 n3))
        · exact nw rfl rfl rfl trivial (by exact pc [0, 1, 2, 3, 5, 4] (ih 0 true true true (sT h) rfl _ d b1 b2 n3))
      · refine bL (LL 0 true true false) (TL 0 true true false) (.cons ?_ (.cons ?_ (.nil)))
        · exact nw rfl rfl rfl trivial (by exact pc [0, 1, 2, 5, 3, 4] (ih 1 true true false (sT h) rfl _ d b1 b2 n3))
        · exact nw rfl rfl rfl trivial (by exact pc [0, 1, 2, 3, 4, 5] (ih 0 true true true (sT h) rfl _ d b1 b2 n3))
      · refine bL (LL 0 true true true) (TL 0 true true true) (.cons ?_ (.nil))
        · exact nw rfl rfl rfl trivial (by exact pc [0, 1, 2, 6, 3, 4, 5] (ih 1 true true true (sT h) rfl _ d b1 b2 n3))
    · cases p <;> cases q <;> cases z
      · refine bL (LL 1 false false false) (TL 1 false false false) (.cons ?_ (.cons ?_ (.cons ?_ (.cons ?_ (.nil)))))
        · refine ⟨_, [3], true, rfl, rfl, stepOp_pst rfl ?_ ?_⟩
          · exact ⟨trivial, hk0, Nat.le_refl _, u1, u2⟩
          · exact pc [0, 1, 2, 4] (ih 2 false false false (sT h) rfl _ d b1 b2 n3)
        · exact nw rfl rfl rfl trivial (by exact pc [0, 1, 2, 3, 4] (ih 1 true false false (sT h) rfl _ d b1 b2 n3))
        · exact nw rfl rfl rfl trivial (by exact pc [0, 1, 2, 3, 4] (ih 1 false true false (sT h) rfl _ d b1 b2 n3))
        · exact nw rfl rfl rfl trivial (by exact pc [0, 1, 2, 3, 4] (ih 1 false false true (sT h) rfl _ d b1 b2 n3))
      · refine bL (LL 1 false false true) (TL 1 false false true) (.cons ?_ (.cons ?_ (.cons ?_ (.nil))))
        · refine ⟨_, [3], true, rfl, rfl, stepOp_pst rfl ?_ ?_⟩
          · exact ⟨trivial, hk0, Nat.le_refl _, u1, u2⟩
          · exact pc [0, 1, 2, 5, 4] (ih 2 false false true (sT h) rfl _ d b1 b2 n3)
        · exact nw rfl rfl rfl trivial (by exact pc [0, 1, 2, 3, 5, 4] (ih 1 true false true (sT h) rfl _ d b1 b2 n3))
        · exact nw rfl rfl rfl trivial (by exact pc [0, 1, 2, 3, 5, 4] (ih 1 false true true (sT h) rfl _ d b1 b2 n3))
      · refine bL (LL 1 false true false) (TL 1 false true false) (.cons ?_ (.cons ?_ (.cons ?_ (.nil))))
        · refine ⟨_, [3], true, rfl, rfl, stepOp_pst rfl ?_ ?_⟩
          · exact ⟨trivial, hk0, Nat.le_refl _, u1, u2⟩
          · exact pc [0, 1, 2, 5, 4] (ih 2 false true false (sT h) rfl _ d b1 b2 n3)
        · exact nw rfl rfl rfl trivial (by exact pc [0, 1, 2, 3, 5, 4] (ih 1 true true false (sT h) rfl _ d b1 b2 n3))
        · exact nw rfl rfl rfl trivial (by exact pc [0, 1, 2, 3, 4, 5] (ih 1 false true true (sT h) rfl _ d b1 b2 n3))
      · refine bL (LL 1 false true true) (TL 1 false true true) (.cons ?_ (.cons ?_ (.nil)))
        · refine ⟨_, [3], true, rfl, rfl, stepOp_pst rfl ?_ ?_⟩
          · exact ⟨trivial, hk0, Nat.le_refl _, u1, u2⟩
          · exact pc [0, 1, 2, 6, 4, 5] (ih 2 false true true (sT h) rfl _ d b1 b2 n3)
        · exact nw rfl rfl rfl trivial (by exact pc [0, 1, 2, 3, 6, 4, 5] (ih 1 true true true (sT h) rfl _ d b1 b2 n3))
      · refine bL (LL 1 true false false) (TL 1 true false false) (.cons ?_ (.cons ?_ (.cons ?_ (.nil))))
        · refine ⟨_, [3], true, rfl, rfl, stepOp_pst rfl ?_ ?_⟩
          · exact ⟨trivial, hk0, Nat.le_refl _, u1, u2⟩
          · exact pc [0, 1, 2, 5, 4] (ih 2 true false false (sT h) rfl _ d b1 b2 n3)
        · exact nw rfl rfl rfl trivial (by exact pc [0, 1, 2, 3, 4, 5] (ih 1 true true false (sT h) rfl _ d b1 b2 n3))
        · exact nw rfl rfl rfl trivial (by exact pc [0, 1, 2, 3, 4, 5] (ih 1 true false true (sT h) rfl _ d b1 b2 n3))
      · refine bL (LL 1 true false true) (TL 1 true false true) (.cons ?_ (.cons ?_ (.nil)))
        · refine ⟨_, [3], true, rfl, rfl, stepOp_pst rfl ?_ ?_⟩
          · exact ⟨trivial, hk0, Nat.le_refl _, u1, u2⟩
          · exact pc [0, 1, 2, 6, 4, 5] (ih 2 true false true (sT h) rfl _ d b1 b2 n3)
        · exact nw rfl rfl rfl trivial (by exact pc [0, 1, 2, 3, 4, 6, 5] (ih 1 true true true (sT h) rfl _ d b1 b2 n3))
      · refine bL (LL 1 true true false) (TL 1 true true false) (.cons ?_ (.cons ?_ (.nil)))
        · refine ⟨_, [3], true, rfl, rfl, stepOp_pst rfl ?_ ?_⟩
          · exact ⟨trivial, hk0, Nat.le_refl _, u1, u2⟩
          · exact pc [0, 1, 2, 6, 4, 5] (ih 2 true true false (sT h) rfl _ d b1 b2 n3)
        · exact nw rfl rfl rfl trivial (by exact pc [0, 1, 2, 3, 4, 5, 6] (ih 1 true true true (sT h) rfl _ d b1 b2 n3))
      · refine bL (LL 1 true true true) (TL 1 true true true) (.cons ?_ (.nil))
        · refine ⟨_, [3], true, rfl, rfl, stepOp_pst rfl ?_ ?_⟩
          · exact ⟨trivial, hk0, Nat.le_refl _, u1, u2⟩
          · exact pc [0, 1, 2, 7, 4, 5, 6] (ih 2 true true true (sT h) rfl _ d b1 b2 n3)
    · cases p <;> cases q <;> cases z
      · refine bL (LL 2 false false false) (TL 2 false false false) (.cons ?_ (.cons ?_ (.cons ?_ (.cons ?_ (.nil)))))
        · refine t3 (scale_t n_s t0 0) hn ?_
          rintro at_ _ b1 b2 ⟨d, rfl, hd⟩
          exact pc [0, 1, 2, 3] (ih 3 false false false (sT h) rfl _ d b1 b2 (fun _ => hd))
        · exact nw rfl rfl rfl trivial (by exact pc [0, 1, 2, 3, 4] (ih 2 true false false (sT h) rfl _ d b1 b2 n3))
        · exact nw rfl rfl rfl trivial (by exact pc [0, 1, 2, 3, 4] (ih 2 false true false (sT h) rfl _ d b1 b2 n3))
        · exact nw rfl rfl rfl trivial (by exact pc [0, 1, 2, 3, 4] (ih 2 false false true (sT h) rfl _ d b1 b2 n3))
      · refine bL (LL 2 false false true) (TL 2 false false true) (.cons ?_ (.cons ?_ (.cons ?_ (.nil))))
        · refine t3 (scale_t n_s t0 0) hn ?_
          rintro at_ _ b1 b2 ⟨d, rfl, hd⟩
          exact pc [0, 1, 2, 3, 4] (ih 3 false false true (sT h) rfl _ d b1 b2 (fun _ => hd))
        · exact nw rfl rfl rfl trivial (by exact pc [0, 1, 2, 3, 5, 4] (ih 2 true false true (sT h) rfl _ d b1 b2 n3))
        · exact nw rfl rfl rfl trivial (by exact pc [0, 1, 2, 3, 5, 4] (ih 2 false true true (sT h) rfl _ d b1 b2 n3))
      · refine bL (LL 2 false true false) (TL 2 false true false) (.cons ?_ (.cons ?_ (.cons ?_ (.nil))))
        · refine t3 (scale_t n_s t0 0) hn ?_
          rintro at_ _ b1 b2 ⟨d, rfl, hd⟩
          exact pc [0, 1, 2, 3, 4] (ih 3 false true false (sT h) rfl _ d b1 b2 (fun _ => hd))
        · exact nw rfl rfl rfl trivial (by exact pc [0, 1, 2, 3, 5, 4] (ih 2 true true false (sT h) rfl _ d b1 b2 n3))
        · exact nw rfl rfl rfl trivial (by exact pc [0, 1, 2, 3, 4, 5] (ih 2 false true true (sT h) rfl _ d b1 b2 n3))
      · refine bL (LL 2 false true true) (TL 2 false true true) (.cons ?_ (.cons ?_ (.nil)))
        · refine t3 (scale_t n_s t0 0) hn ?_
          rintro at_ _ b1 b2 ⟨d, rfl, hd⟩
          exact pc [0, 1, 2, 3, 4, 5] (ih 3 false true true (sT h) rfl _ d b1 b2 (fun _ => hd))
        · exact nw rfl rfl rfl trivial (by exact pc [0, 1, 2, 3, 6, 4, 5] (ih 2 true true true (sT h) rfl _ d b1 b2 n3))
      · refine bL (LL 2 true false false) (TL 2 true false false) (.cons ?_ (.cons ?_ (.cons ?_ (.nil))))
        · refine t3 (scale_t n_s t0 0) hn ?_
          rintro at_ _ b1 b2 ⟨d, rfl, hd⟩
          exact pc [0, 1, 2, 3, 4] (ih 3 true false false (sT h) rfl _ d b1 b2 (fun _ => hd))
        · exact nw rfl rfl rfl trivial (by exact pc [0, 1, 2, 3, 4, 5] (ih 2 true true false (sT h) rfl _ d b1 b2 n3))
        · exact nw rfl rfl rfl trivial (by exact pc [0, 1, 2, 3, 4, 5] (ih 2 true false true (sT h) rfl _ d b1 b2 n3))
      · refine bL (LL 2 true false true) (TL 2 true false true) (.cons ?_ (.cons ?_ (.nil)))
        · refine t3 (scale_t n_s t0 0) hn ?_
          rintro at_ _ b1 b2 ⟨d, rfl, hd⟩
          exact pc [0, 1, 2, 3, 4, 5] (ih 3 true false true (sT h) rfl _ d b1 b2 (fun _ => hd))
        · exact nw rfl rfl rfl trivial (by exact pc [0, 1, 2, 3, 4, 6, 5] (ih 2 true true true (sT h) rfl _ d b1 b2 n3))
      · refine bL (LL 2 true true false) (TL 2 true true false) (.cons ?_ (.cons ?_ (.nil)))
        · refine t3 (scale_t n_s t0 0) hn ?_
          rintro at_ _ b1 b2 ⟨d, rfl, hd⟩
          exact pc [0, 1, 2, 3, 4, 5] (ih 3 true true false (sT h) rfl _ d b1 b2 (fun _ => hd))
        · exact nw rfl rfl rfl trivial (by exact pc [0, 1, 2, 3, 4, 5, 6] (ih 2 true true true (sT h) rfl _ d b1 b2 n3))
      · refine bL (LL 2 true true true) (TL 2 true true true) (.cons ?_ (.nil))
        · refine t3 (scale_t n_s t0 0) hn ?_
          rintro at_ _ b1 b2 ⟨d, rfl, hd⟩
          exact pc [0, 1, 2, 3, 4, 5, 6] (ih 3 true true true (sT h) rfl _ d b1 b2 (fun _ => hd))
    · cases p <;> cases q <;> cases z
      · refine bL (LL 3 false false false) (TL 3 false false false) (.cons ?_ (.cons ?_ (.cons ?_ (.cons ?_ (.nil)))))
        · exact nw rfl rfl rfl trivial (by exact pc [0, 1, 2, 3, 4] (ih 4 false false false (sT h) rfl _ d b1 b2 (y3 hd)))
        · exact nw rfl rfl rfl trivial (by exact pc [0, 1, 2, 3, 4] (ih 3 true false false (sT h) rfl _ d b1 b2 (y3 hd)))
        · exact nw rfl rfl rfl trivial (by exact pc [0, 1, 2, 3, 4] (ih 3 false true false (sT h) rfl _ d b1 b2 (y3 hd)))
        · exact nw rfl rfl rfl trivial (by exact pc [0, 1, 2, 3, 4] (ih 3 false false true (sT h) rfl _ d b1 b2 (y3 hd)))
      · refine bL (LL 3 false false true) (TL 3 false false true) (.cons ?_ (.cons ?_ (.cons ?_ (.nil))))
        · exact nw rfl rfl rfl trivial (by exact pc [0, 1, 2, 3, 5, 4] (ih 4 false false true (sT h) rfl _ d b1 b2 (y3 hd)))
        · exact nw rfl rfl rfl trivial (by exact pc [0, 1, 2, 3, 5, 4] (ih 3 true false true (sT h) rfl _ d b1 b2 (y3 hd)))
        · exact nw rfl rfl rfl trivial (by exact pc [0, 1, 2, 3, 5, 4] (ih 3 false true true (sT h) rfl _ d b1 b2 (y3 hd)))
      · refine bL (LL 3 false true false) (TL 3 false true false) (.cons ?_ (.cons ?_ (.cons ?_ (.nil))))
        · exact nw rfl rfl rfl trivial (by exact pc [0, 1, 2, 3, 5, 4] (ih 4 false true false (sT h) rfl _ d b1 b2 (y3 hd)))
        · exact nw rfl rfl rfl trivial (by exact pc [0, 1, 2, 3, 5, 4] (ih 3 true true false (sT h) rfl _ d b1 b2 (y3 hd)))
        · exact nw rfl rfl rfl trivial (by exact pc [0, 1, 2, 3, 4, 5] (ih 3 false true true (sT h) rfl _ d b1 b2 (y3 hd)))
      · refine bL (LL 3 false true true) (TL 3 false true true) (.cons ?_ (.cons ?_ (.nil)))
        · exact nw rfl rfl rfl trivial (by exact pc [0, 1, 2, 3, 6, 4, 5] (ih 4 false true true (sT h) rfl _ d b1 b2 (y3 hd)))
        · exact nw rfl rfl rfl trivial (by exact pc [0, 1, 2, 3, 6, 4, 5] (ih 3 true true true (sT h) rfl _ d b1 b2 (y3 hd)))
      · refine bL (LL 3 true false false) (TL 3 true false false) (.cons ?_ (.cons ?_ (.cons ?_ (.nil))))
        · exact nw rfl rfl rfl trivial (by exact pc [0, 1, 2, 3, 5, 4] (ih 4 true false false (sT h) rfl _ d b1 b2 (y3 hd)))
        · exact nw rfl rfl rfl trivial (by exact pc [0, 1, 2, 3, 4, 5] (ih 3 true true false (sT h) rfl _ d b1 b2 (y3 hd)))
        · exact nw rfl rfl rfl trivial (by exact pc [0, 1, 2, 3, 4, 5] (ih 3 true false true (sT h) rfl _ d b1 b2 (y3 hd)))
      · refine bL (LL 3 true false true) (TL 3 true false true) (.cons ?_ (.cons ?_ (.nil)))
        · exact nw rfl rfl rfl trivial (by exact pc [0, 1, 2, 3, 6, 4, 5] (ih 4 true false true (sT h) rfl _ d b1 b2 (y3 hd)))
        · exact nw rfl rfl rfl trivial (by exact pc [0, 1, 2, 3, 4, 6, 5] (ih 3 true true true (sT h) rfl _ d b1 b2 (y3 hd)))
      · refine bL (LL 3 true true false) (TL 3 true true false) (.cons ?_ (.cons ?_ (.nil)))
        · exact nw rfl rfl rfl trivial (by exact pc [0, 1, 2, 3, 6, 4, 5] (ih 4 true true false (sT h) rfl _ d b1 b2 (y3 hd)))
        · exact nw rfl rfl rfl trivial (by exact pc [0, 1, 2, 3, 4, 5, 6] (ih 3 true true true (sT h) rfl _ d b1 b2 (y3 hd)))
      · refine bL (LL 3 true true true) (TL 3 true true true) (.cons ?_ (.nil))
        · exact nw rfl rfl rfl trivial (by exact pc [0, 1, 2, 3, 7, 4, 5, 6] (ih 4 true true true (sT h) rfl _ d b1 b2 (y3 hd)))
    · cases p <;> cases q <;> cases z
      · refine bL (LL 4 false false false) (TL 4 false false false) (.cons ?_ (.cons ?_ (.cons ?_ (.cons ?_ (.nil)))))
        · refine ⟨_, [3], true, rfl, rfl, stepOp_pst rfl ?_ ?_⟩
          · exact ⟨Nat.le_refl _, v0, v1, u3, u4⟩
          · exact pc [0, 1, 2, 5] (ih 5 false false false (sT h) rfl _ d b1 b2 (y3 hd))
        · exact nw rfl rfl rfl trivial (by exact pc [0, 1, 2, 3, 4, 5] (ih 4 true false false (sT h) rfl _ d b1 b2 (y3 hd)))
        · exact nw rfl rfl rfl trivial (by exact pc [0, 1, 2, 3, 4, 5] (ih 4 false true false (sT h) rfl _ d b1 b2 (y3 hd)))
        · exact nw rfl rfl rfl trivial (by exact pc [0, 1, 2, 3, 4, 5] (ih 4 false false true (sT h) rfl _ d b1 b2 (y3 hd)))
      · refine bL (LL 4 false false true) (TL 4 false false true) (.cons ?_ (.cons ?_ (.cons ?_ (.nil))))
        · refine ⟨_, [3], true, rfl, rfl, stepOp_pst rfl ?_ ?_⟩
          · exact ⟨Nat.le_refl _, v0, v1, u3, u4⟩
          · exact pc [0, 1, 2, 6, 5] (ih 5 false false true (sT h) rfl _ d b1 b2 (y3 hd))
        · exact nw rfl rfl rfl trivial (by exact pc [0, 1, 2, 3, 4, 6, 5] (ih 4 true false true (sT h) rfl _ d b1 b2 (y3 hd)))
        · exact nw rfl rfl rfl trivial (by exact pc [0, 1, 2, 3, 4, 6, 5] (ih 4 false true true (sT h) rfl _ d b1 b2 (y3 hd)))
      · refine bL (LL 4 false true false) (TL 4 false true false) (.cons ?_ (.cons ?_ (.cons ?_ (.nil))))
        · refine ⟨_, [3], true, rfl, rfl, stepOp_pst rfl ?_ ?_⟩
          · exact ⟨Nat.le_refl _, v0, v1, u3, u4⟩
          · exact pc [0, 1, 2, 6, 5] (ih 5 false true false (sT h) rfl _ d b1 b2 (y3 hd))
        · exact nw rfl rfl rfl trivial (by exact pc [0, 1, 2, 3, 4, 6, 5] (ih 4 true true false (sT h) rfl _ d b1 b2 (y3 hd)))
        · exact nw rfl rfl rfl trivial (by exact pc [0, 1, 2, 3, 4, 5, 6] (ih 4 false true true (sT h) rfl _ d b1 b2 (y3 hd)))
      · refine bL (LL 4 false true true) (TL 4 false true true) (.cons ?_ (.cons ?_ (.nil)))
        · refine ⟨_, [3], true, rfl, rfl, stepOp_pst rfl ?_ ?_⟩
          · exact ⟨Nat.le_refl _, v0, v1, u3, u4⟩
          · exact pc [0, 1, 2, 7, 5, 6] (ih 5 false true true (sT h) rfl _ d b1 b2 (y3 hd))
        · exact nw rfl rfl rfl trivial (by exact pc [0, 1, 2, 3, 4, 7, 5, 6] (ih 4 true true true (sT h) rfl _ d b1 b2 (y3 hd)))
      · refine bL (LL 4 true false false) (TL 4 true false false) (.cons ?_ (.cons ?_ (.cons ?_ (.nil))))
        · refine ⟨_, [3], true, rfl, rfl, stepOp_pst rfl ?_ ?_⟩
          · exact ⟨Nat.le_refl _, v0, v1, u3, u4⟩
          · exact pc [0, 1, 2, 6, 5] (ih 5 true false false (sT h) rfl _ d b1 b2 (y3 hd))
        · exact nw rfl rfl rfl trivial (by exact pc [0, 1, 2, 3, 4, 5, 6] (ih 4 true true false (sT h) rfl _ d b1 b2 (y3 hd)))
        · exact nw rfl rfl rfl trivial (by exact pc [0, 1, 2, 3, 4, 5, 6] (ih 4 true false true (sT h) rfl _ d b1 b2 (y3 hd)))
      · refine bL (LL 4 true false true) (TL 4 true false true) (.cons ?_ (.cons ?_ (.nil)))
        · refine ⟨_, [3], true, rfl, rfl, stepOp_pst rfl ?_ ?_⟩
          · exact ⟨Nat.le_refl _, v0, v1, u3, u4⟩
          · exact pc [0, 1, 2, 7, 5, 6] (ih 5 true false true (sT h) rfl _ d b1 b2 (y3 hd))
        · exact nw rfl rfl rfl trivial (by exact pc [0, 1, 2, 3, 4, 5, 7, 6] (ih 4 true true true (sT h) rfl _ d b1 b2 (y3 hd)))
      · refine bL (LL 4 true true false) (TL 4 true true false) (.cons ?_ (.cons ?_ (.nil)))
        · refine ⟨_, [3], true, rfl, rfl, stepOp_pst rfl ?_ ?_⟩
          · exact ⟨Nat.le_refl _, v0, v1, u3, u4⟩
          · exact pc [0, 1, 2, 7, 5, 6] (ih 5 true true false (sT h) rfl _ d b1 b2 (y3 hd))
        · exact nw rfl rfl rfl trivial (by exact pc [0, 1, 2, 3, 4, 5, 6, 7] (ih 4 true true true (sT h) rfl _ d b1 b2 (y3 hd)))
      · refine bL (LL 4 true true true) (TL 4 true true true) (.cons ?_ (.nil))
        · refine ⟨_, [3], true, rfl, rfl, stepOp_pst rfl ?_ ?_⟩
          · exact ⟨Nat.le_refl _, v0, v1, u3, u4⟩
          · exact pc [0, 1, 2, 8, 5, 6, 7] (ih 5 true true true (sT h) rfl _ d b1 b2 (y3 hd))
    · cases p <;> cases q <;> cases z
      · refine bL (LL 5 false false false) (TL 5 false false false) (.cons ?_ (.cons ?_ (.cons ?_ (.nil))))
        · exact nw rfl rfl rfl trivial (by exact pc [0, 1, 2, 3, 4] (ih 5 true false false (sT h) rfl _ d b1 b2 (y3 hd)))
        · exact nw rfl rfl rfl trivial (by exact pc [0, 1, 2, 3, 4] (ih 5 false true false (sT h) rfl _ d b1 b2 (y3 hd)))
        · exact nw rfl rfl rfl trivial (by exact pc [0, 1, 2, 3, 4] (ih 5 false false true (sT h) rfl _ d b1 b2 (y3 hd)))
      · refine bL (LL 5 false false true) (TL 5 false false true) (.cons ?_ (.cons ?_ (.nil)))
        · exact nw rfl rfl rfl trivial (by exact pc [0, 1, 2, 3, 5, 4] (ih 5 true false true (sT h) rfl _ d b1 b2 (y3 hd)))
        · exact nw rfl rfl rfl trivial (by exact pc [0, 1, 2, 3, 5, 4] (ih 5 false true true (sT h) rfl _ d b1 b2 (y3 hd)))
      · refine bL (LL 5 false true false) (TL 5 false true false) (.cons ?_ (.cons ?_ (.nil)))
        · exact nw rfl rfl rfl trivial (by exact pc [0, 1, 2, 3, 5, 4] (ih 5 true true false (sT h) rfl _ d b1 b2 (y3 hd)))
        · exact nw rfl rfl rfl trivial (by exact pc [0, 1, 2, 3, 4, 5] (ih 5 false true true (sT h) rfl _ d b1 b2 (y3 hd)))
      · refine bL (LL 5 false true true) (TL 5 false true true) (.cons ?_ (.nil))
        · exact nw rfl rfl rfl trivial (by exact pc [0, 1, 2, 3, 6, 4, 5] (ih 5 true true true (sT h) rfl _ d b1 b2 (y3 hd)))
      · refine bL (LL 5 true false false) (TL 5 true false false) (.cons ?_ (.cons ?_ (.cons ?_ (.nil))))
        · refine ⟨_, [4], true, rfl, rfl, stepOp_pst rfl ?_ ?_⟩
          · exact ⟨trivial, v0, Nat.le_refl _, u5, u6⟩
          · exact pc [0, 1, 2, 3, 5] (ih 6 true false false (sT h) rfl _ d b1 b2 (y3 hd))
        · exact nw rfl rfl rfl trivial (by exact pc [0, 1, 2, 3, 4, 5] (ih 5 true true false (sT h) rfl _ d b1 b2 (y3 hd)))
        · exact nw rfl rfl rfl trivial (by exact pc [0, 1, 2, 3, 4, 5] (ih 5 true false true (sT h) rfl _ d b1 b2 (y3 hd)))
      · refine bL (LL 5 true false true) (TL 5 true false true) (.cons ?_ (.cons ?_ (.nil)))
        · refine ⟨_, [4], true, rfl, rfl, stepOp_pst rfl ?_ ?_⟩
          · exact ⟨trivial, v0, Nat.le_refl _, u5, u6⟩
          · exact pc [0, 1, 2, 3, 6, 5] (ih 6 true false true (sT h) rfl _ d b1 b2 (y3 hd))
        · exact nw rfl rfl rfl trivial (by exact pc [0, 1, 2, 3, 4, 6, 5] (ih 5 true true true (sT h) rfl _ d b1 b2 (y3 hd)))
      · refine bL (LL 5 true true false) (TL 5 true true false) (.cons ?_ (.cons ?_ (.nil)))
        · refine ⟨_, [4], true, rfl, rfl, stepOp_pst rfl ?_ ?_⟩
          · exact ⟨trivial, v0, Nat.le_refl _, u5, u6⟩
          · exact pc [0, 1, 2, 3, 6, 5] (ih 6 true true false (sT h) rfl _ d b1 b2 (y3 hd))
        · exact nw rfl rfl rfl trivial (by exact pc [0, 1, 2, 3, 4, 5, 6] (ih 5 true true true (sT h) rfl _ d b1 b2 (y3 hd)))
      · refine bL (LL 5 true true true) (TL 5 true true true) (.cons ?_ (.nil))
        · refine ⟨_, [4], true, rfl, rfl, stepOp_pst rfl ?_ ?_⟩
          · exact ⟨trivial, v0, Nat.le_refl _, u5, u6⟩
          · exact pc [0, 1, 2, 3, 7, 5, 6] (ih 6 true true true (sT h) rfl _ d b1 b2 (y3 hd))
    · cases p <;> cases q <;> cases z
      · cases ho
      · cases ho
      · cases ho
      · cases ho
      · refine bL (LL 6 true false false) (TL 6 true false false) (.cons ?_ (.cons ?_ (.nil)))
        · exact nw rfl rfl rfl trivial (by exact pc [0, 1, 2, 3, 4, 5] (ih 6 true true false (sT h) rfl _ d b1 b2 (y3 hd)))
        · exact nw rfl rfl rfl trivial (by exact pc [0, 1, 2, 3, 4, 5] (ih 6 true false true (sT h) rfl _ d b1 b2 (y3 hd)))
      · refine bL (LL 6 true false true) (TL 6 true false true) (.cons ?_ (.nil))
        · exact nw rfl rfl rfl trivial (by exact pc [0, 1, 2, 3, 4, 6, 5] (ih 6 true true true (sT h) rfl _ d b1 b2 (y3 hd)))
      · refine bL (LL 6 true true false) (TL 6 true true false) (.cons ?_ (.cons ?_ (.nil)))
        · refine ⟨_, [4], true, rfl, rfl, stepOp_pst rfl ?_ ?_⟩
          · exact ⟨Nat.le_refl _, v0, v1, u7, u8⟩
          · exact pc [0, 1, 2, 3, 6] (ih 7 true true false (sT h) rfl _ d b1 b2 (y3 hd))
        · exact nw rfl rfl rfl trivial (by exact pc [0, 1, 2, 3, 4, 5, 6] (ih 6 true true true (sT h) rfl _ d b1 b2 (y3 hd)))
      · refine bL (LL 6 true true true) (TL 6 true true true) (.cons ?_ (.nil))
        · refine ⟨_, [4], true, rfl, rfl, stepOp_pst rfl ?_ ?_⟩
          · exact ⟨Nat.le_refl _, v0, v1, u7, u8⟩
          · exact pc [0, 1, 2, 3, 7, 6] (ih 7 true true true (sT h) rfl _ d b1 b2 (y3 hd))
    · cases p <;> cases q <;> cases z
      · cases ho
      · cases ho
      · cases ho
      · cases ho
      · cases ho
      · cases ho
      · refine bL (LL 7 true true false) (TL 7 true true false) (.cons ?_ (.cons ?_ (.nil)))
        · refine ⟨_, [], _, rfl, rfl, pst_call [3, 4] rfl rfl rfl rfl rfl (e1 d (hd (by omega))) ⟨argCl (clB_spec _ rfl), argCl (clB_spec _ rfl), argDl rfl (List.Mem.head _), argPn rfl (List.Mem.tail _ (List.Mem.head _)), trivial⟩ ?_⟩
          rintro _ rfl
          refine ⟨scB_spec _ rfl, ?_⟩
          refine xs_moreF (sch := [.take 17, .take 18, .take 19, .one 20, .one 21, .one 22]) (fin := true) (m' := 0) (n := 23) [0, 1, 2, 3, 4, 5, 6, 7, 8, 9, 10, 11, 12, 13, 14, 15, 16] (by decide +kernel) (by kernel_rfl) ?_
          repeat' (first | refine xs rfl ?_ ?_ | exact trivial | ((with_reducible (show AllP (_ :: _))); refine And.intro ?_ ?_) | exact qq | fail)
          refine xs_done ?_
          exact hK at_ b1 b2 _ (can_rowsv [0, 1, 2, 5] (k0_sel (show Γ.k0 = 0 from hk) rfl) rfl (.cons rfl (RowEq.cl (tape_cl _ _ _)) (.cons rfl (RowEq.cl (rXE_cl e)) (.cons rfl rqq (.cons rfl rqq .nil)))) tmq)
        · exact nw rfl rfl rfl trivial (by exact pc [0, 1, 2, 3, 4, 5] (ih 7 true true true (sT h) rfl _ d b1 b2 (y3 hd)))
      · refine bL (LL 7 true true true) (TL 7 true true true) (.cons ?_ (.nil))
        · refine ⟨_, [], _, rfl, rfl, pst_call [3, 4] rfl rfl rfl rfl rfl (e1 d (hd (by omega))) ⟨argCl (clB_spec _ rfl), argCl (clB_spec _ rfl), argDl rfl (List.Mem.head _), argPn rfl (List.Mem.tail _ (List.Mem.head _)), trivial⟩ ?_⟩
          rintro _ rfl
          refine ⟨scB_spec _ rfl, ?_⟩
          refine xs_moreF (sch := [.take 17, .take 18, .take 19, .one 21, .one 22]) (fin := true) (m' := 0) (n := 23) [0, 1, 2, 3, 4, 5, 6, 7, 8, 9, 10, 11, 12, 13, 14, 15, 16, 20] (by decide +kernel) (by kernel_rfl) ?_
          repeat' (first | refine xs rfl ?_ ?_ | exact trivial | ((with_reducible (show AllP (_ :: _))); refine And.intro ?_ ?_) | exact qq | fail)
          refine xs_done ?_
          exact hK at_ b1 b2 _ (can_rowsv [0, 1, 2, 5] (k0_sel (show Γ.k0 = 0 from hk) rfl) rfl (.cons rfl (RowEq.cl (tape_cl _ _ _)) (.cons rfl (RowEq.cl (rXE_cl e)) (.cons rfl rqq (.cons rfl rqq .nil)))) tmq)
end Go.Proofs.YtcghpepighboaaaDoor
