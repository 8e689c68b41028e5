/- payrolllaw22.ValueDimensions: the region that makes scales and pasts. Printed by wip/tools/gen_dm5.py. -/
import Derived.Test.YtcghpepighboaaaDoorDm3
import Derived.Test.YtcghpepighboaaaDoorDm4
import Derived.Test.YtcghpepighboaaaDoorVg1
import Derived.Test.YtcghpepighboaaaDoorX20
import Derived.Test.YtcghpepighboaaaDoorPvF
import Derived.Test.YtcghpepighboaaaDoorPvK
set_option linter.unusedSimpArgs false
set_option linter.unusedVariables false
set_option maxRecDepth 100000
namespace Go.Proofs.YtcghpepighboaaaDoor
def headS : Code → Code
  | .seq a _ => a
  | c => c
def rOps : Code → Array Oper
  | .region _ ops _ => ops
  | _ => #[]
abbrev rTy (t : Ty) : Row := ⟨.own, true, 1, 4, fun _ => nthP (cT t)⟩
theorem rTy_cl (t : Ty) : rowCl (rTy t) := fun i _ j _ => clL_nth _ _ ⟨trivial, trivial, trivial, trivial, trivial⟩
abbrev rV3 (x y z : Int × Int) : Row := ⟨.own, false, 3, 2, fun a b => nthP [vi x.1, vi x.2, vi y.1, vi y.2, vi z.1, vi z.2] (a * 2 + b)⟩
theorem rV3_cl (x y z : Int × Int) : rowCl (rV3 x y z) := fun i _ j _ => clL_nth _ _ ⟨trivial, trivial, trivial, trivial, trivial, trivial, trivial⟩
abbrev rS2 (d0 d1 : Df) : Row := ⟨.own, false, 2, 21, fun a b => nthP (cD d0 ++ cD d1) (a * 21 + b)⟩
theorem clL_app {l l' : List PV} (h : ClL l) (h' : ClL l') : ClL (l ++ l') := by
  induction l with
  | nil => exact h'
  | cons x l ih => exact ⟨h.1, ih h.2⟩
theorem rS2_cl (d0 d1 : Df) : rowCl (rS2 d0 d1) := fun i _ j _ => clL_nth _ _ (clL_app (cD_cl d0) (cD_cl d1))
abbrev rP2 (a b : Nat) : Row := ⟨.own, false, 2, 2, fun x y => nthP [vs n_gross, .lsl a 0 3, vs n_time, .lsl b 0 3] (x * 2 + y)⟩
theorem rP2_eq {τ : Nat → Option Nat} {a b a' b' : Nat} (h1 : τ a = some a') (h2 : τ b = some b') : RowEq ((rP2 a b).ren τ) (rP2 a' b') := ⟨rfl, rfl, Nat.le_refl _, fun i hi j hj => by
  have hi : i < 2 := hi
  have hj : j < 2 := hj
  rcases (by omega : i = 0 ∨ i = 1) with rfl | rfl <;> rcases (by omega : j = 0 ∨ j = 1) with rfl | rfl
  · exact PEq.refl _
  · show PEq (match τ a with | some l' => PV.lsl l' 0 3 | none => .junk) (.lsl a' 0 3)
    rw [h1]; exact PEq.refl _
  · exact PEq.refl _
  · show PEq (match τ b with | some l' => PV.lsl l' 0 3 | none => .junk) (.lsl b' 0 3)
    rw [h2]; exact PEq.refl _⟩
theorem pgA {τ : Nat → Option Nat} {nm : ByteArray} {l l' i n : Nat} (h : τ l = some l') : PEq ((PV.agg 2 (nthP [vs nm, .lsl l i n])).ren τ) (.agg 2 (nthP [vs nm, .lsl l' i n])) :=
  (show PEq (.agg 2 _) (.agg 2 _) from PEq.agg fun j hj => by
    rcases (by omega : j = 0 ∨ j = 1) with rfl | rfl
    · exact PEq.refl _
    · show PEq (match τ l with | some l' => PV.lsl l' i n | none => .junk) (.lsl l' i n)
      rw [h]; exact PEq.refl _)
theorem nb {P : Prop} (h : false = true) : P := by cases h
structure HV (k : Nat) (d0 d1 : Df) (x0 x1 x2 x3 x4 x5 : Int × Int) : Prop where
  hw : Nat.ble 2 k = true → ScOk n_w tR 0 d0
  hs : Nat.ble 3 k = true → ScOk n_s t0 0 d1
  hx0 : Nat.ble 4 k = true → x0 ∈ decL
  hx1 : Nat.ble 5 k = true → x1 ∈ decL
  hx2 : Nat.ble 6 k = true → x2 ∈ decL
  hx3 : Nat.ble 7 k = true → x3 ∈ decL
  hx4 : Nat.ble 8 k = true → x4 ∈ decL
  hx5 : Nat.ble 9 k = true → x5 ∈ decL
section
variable (n : Nat) (g : Nat → Int) (t : Ty) (e : Ex)
def inR (k kk : Nat) (N : List In) : List Row := match k with
  | 0 => []
  | _ => [oRow cIn 3 (kk + 1) (lF dIn N)]
abbrev rowsD (k : Nat) (p q r z : Bool) (at_ : Int) (kk : Nat) (N : List In) (d0 d1 : Df) (x0 x1 x2 x3 x4 x5 : Int × Int) : List Row := tapeRow n g at_ :: rTy t :: rXE e :: (inR k kk N ++ (cond q [rV3 x0 x1 x2] [] ++ (cond r [rV3 x3 x4 x5] [] ++ (cond z [rP2 4 5] [] ++ cond p [rS2 d0 d1] []))))
def k9 (k : Nat) (l : List (Nat × PV)) : List (Nat × PV) := match k with
  | 9 => l
  | _ => []
def nSd (q r z : Bool) : Nat := 4 + q.toNat + r.toNat + z.toNat
abbrev tmD (k : Nat) (p q r z : Bool) (d0 d1 : Df) (x0 x1 x2 x3 x4 x5 : Int × Int) : List (Nat × PV) := [(3, .ptr 0 0 0), (4, .ptr 1 0 0), (5, .ptr 2 0 0), (29, .ptr 0 0 0), (32, .ptr 0 0 0), (34, vT tR), (36, .ptr 0 0 0), (37, vT t0), (40, .ptr 0 0 0), (42, .ptr 0 0 0), (44, .ptr 0 0 0), (48, .ptr 0 0 0), (50, .ptr 0 0 0), (52, .ptr 0 0 0)] ++ ([(31, PV.lsl 3 0 0), (35, vD d0), (38, vD d1), (41, vr x0.1 x0.2), (43, vr x1.1 x1.2), (45, vr x2.1 x2.2), (49, vr x3.1 x3.2), (51, vr x4.1 x4.2), (53, vr x5.1 x5.2)].take k ++ (k9 k [(6, .lsl 3 0 0)] ++ (cond q [(47, .agg 2 (nthP [vs n_gross, .lsl 4 0 3]))] [] ++ (cond r [(55, .agg 2 (nthP [vs n_time, .lsl (4 + q.toNat) 0 3]))] [] ++ (cond z [(56, .lsl 6 0 2)] [] ++ cond p ((39, .lsl (nSd q r z) 0 2) :: k9 k [(7, .lsl (nSd q r z) 0 2)]) [])))))
end
def LD (k : Nat) (p q r z : Bool) : List Nat := [0, 3, 4, 5, 7, 8, 11, 13, 15, 19, 21, 23] ++ ([1, 6, 9, 12, 14, 16, 20, 22, 24].take k ++ ([2].take k ++ ((match k with | 9 => [28] | _ => []) ++ (cond p (10 :: (match k with | 9 => [29] | _ => [])) [] ++ (cond q [17, 18] [] ++ (cond r [25, 26] [] ++ cond z [27] []))))))
def mD (k : Nat) (p q r z : Bool) : Nat := 31 - (LD k p q r z).length
def hD : Nat → List Nat
  | 0 => []
  | _ => [3]
def niD : Nat → Bool
  | 0 => true
  | _ => false
theorem svD {P : Prop} (h : P := by (repeat (refine SelV.cons rfl (by first | exact RowEq.cl (tape_cl _ _ _) | exact RowEq.cl (rTy_cl _) | exact RowEq.cl (rXE_cl _) | exact RowEq.cl (o_cl cIn_cl _ _ _) | exact RowEq.cl (rV3_cl _ _ _) | exact rP2_eq rfl rfl | exact RowEq.cl (rS2_cl _ _)) ?_)); exact SelV.nil) : P := h
theorem tvD {P : Prop} (h : P := by (repeat (first | refine ⟨PEq.refl _, ?_⟩ | refine ⟨PEq.cl _ (clB_spec _ rfl), ?_⟩ | refine ⟨pgA rfl, ?_⟩)); exact trivial) : P := h
def okD (k : Nat) (p q r z : Bool) : Bool := Nat.ble k 9 && ((!p || Nat.ble 3 k) && ((!q || Nat.ble 6 k) && ((!r || Nat.ble 9 k) && ((!z || (q && r)) && !(p && z)))))
theorem sT {f a b : Nat} (h : 13 ≤ f + 1 + a) (e : b = a + 1 := by rfl) : 13 ≤ f + b := by omega
theorem nw {G : Pg2} {N : Nat} {Γ : Fr} {st st' : PSt} {ops : Array Oper} {o : Oper} {H : List Nat} {i : Nat} {pr : Prop} {k : Bool → PSt → Prop} (hi : opAt ops.toList i = some o) (hc : chB H [] = true) (hs : stepOp G.tab G.eqs Γ.k0 N ops st o = some (st', pr, [])) (hp : pr) (hk : k true st') : ∃ o ch nk, opAt ops.toList i = some o ∧ chB H ch = true ∧ PStep G N Γ ops o st ch nk (k nk) := ⟨o, [], true, hi, hc, stepOp_pst hs hp hk⟩
theorem bD {G : Pg2} {N : Nat} {Γ : Fr} {st st1 : PSt} {K : Exit → PSt → Prop} {ops : Array Oper} {H : List Nat} {ni : Bool} {m : Nat} {ls : Array Bool} (L : List Nat) (T : List (Nat × Sched × Bool × Nat)) (h : BrAll G N Γ ops H ni L 31 st1 K T) (hf : fSt st = some st1 := by exact rfl) (hls : (ls == lsF L 31) = true := by decide +kernel) (hok : brOk ops (lsF L 31) m T = true := by kernel_rfl) (hH : inB st1.mem.length H = true := by kernel_rfl) : PS G N Γ ops H ni false [] (m + 1) ls st K := xs_brT (n := 31) L T hls hf hok hH h
theorem pd {G : Pg2} {N : Nat} {Γ : Fr} {K : Exit → PSt → Prop} {ops : Array Oper} {H : List Nat} {ni fin : Bool} {m : Nat} {ls ls' : Array Bool} {sch : Sched} {st : PSt} (sel : List Nat) {tm : List (Nat × PV)} {rows : List Row} (h : PS G N Γ ops H ni fin sch m ls' ⟨tm, rows⟩ K) (hk : Γ.k0 = 0 := by assumption) (hd : nodupB sel = true := by exact rfl) (hH : keepB sel H = true := by exact rfl) (hs : SelV st.mem sel sel rows := by exact svD) (ht : TmOk st sel tm := by exact tvD) (hls : (ls == ls') = true := by decide +kernel) : PS G N Γ ops H ni fin sch m ls st K := ps_can sel ⟨by omega, fun i h => by omega⟩ hd hH hs ht (ps_ls hls h)
set_option maxHeartbeats 40000000 in
theorem r4_all (n : Nat) (g : Nat → Int) (hn : n ≤ 9223372036854775807) (Γ : Fr) (hk : Γ.k0 = 0) (t : Ty) (e : Ex) (K : Exit → PSt → Prop)
    (hK : ∀ (at_ : Int) (kk : Nat) (N : List In) (d0 d1 : Df) (x0 x1 x2 x3 x4 x5 : Int × Int), 0 ≤ at_ → at_ ≤ n → HV 9 d0 d1 x0 x1 x2 x3 x4 x5 → ∀ st, Can Tryd.f7.ntmps Γ st ⟨[(3, .ptr 0 0 0), (4, .ptr 1 0 0), (5, .ptr 2 0 0), (6, .lsl 3 0 0), (7, .lsl 7 0 2), (8, .lsl 6 0 2)], [tapeRow n g at_, rTy t, rXE e, oRow cIn 3 (kk + 1) (lF dIn N), rV3 x0 x1 x2, rV3 x3 x4 x5, rP2 4 5, rS2 d0 d1]⟩ → K .normal st) :
    ∀ (fuel k : Nat) (p q r z : Bool), 13 ≤ fuel + (k + p.toNat + q.toNat + r.toNat + z.toNat) → okD k p q r z = true → ∀ (at_ : Int) (kk : Nat) (N : List In) (d0 d1 : Df) (x0 x1 x2 x3 x4 x5 : Int × Int), 0 ≤ at_ → at_ ≤ n → HV k d0 d1 x0 x1 x2 x3 x4 x5 →
      PS G Tryd.f7.ntmps Γ (rOps (headS (dropS 4 (Tryd.f7.body.getD .skip)))) (hD k) (niD k) false [] (mD k p q r z) (lsF (LD k p q r z) 31) ⟨tmD k p q r z d0 d1 x0 x1 x2 x3 x4 x5, rowsD n g t e k p q r z at_ kk N d0 d1 x0 x1 x2 x3 x4 x5⟩ K
  | 0, k, p, q, r, z, h, ho, _, _, _, _, _, _, _, _, _, _, _, _, _, _ => by
    have h9 : k ≤ 9 := by
      cases hb : Nat.ble k 9 with
      | true => exact Nat.le_of_ble_eq_true hb
      | false => unfold okD at ho; rw [hb] at ho; cases ho
    cases p <;> cases q <;> cases r <;> cases z <;> simp at h <;> first | omega | simp [okD] at ho
  | fuel + 1, k, p, q, r, z, h, ho, at_, kk, N, d0, d1, x0, x1, x2, x3, x4, x5, b1, b2, hv => by
    have h9 : k ≤ 9 := by
      cases hb : Nat.ble k 9 with
      | true => exact Nat.le_of_ble_eq_true hb
      | false => unfold okD at ho; rw [hb] at ho; cases ho
    have ih := r4_all n g hn Γ hk t e K hK fuel
    rcases (by omega : k = 0 ∨ k = 1 ∨ k = 2 ∨ k = 3 ∨ k = 4 ∨ k = 5 ∨ k = 6 ∨ k = 7 ∨ k = 8 ∨ k = 9) with rfl | rfl | rfl | rfl | rfl | rfl | rfl | rfl | rfl | rfl
    · cases p <;> cases q <;> cases r <;> cases z
      · refine bD (LD 0 false false false false) [(1, [.take 2], false, 17)] (.cons ?_ (.nil))
        · refine ⟨_, [0], false, rfl, rfl, pst_rowsc [0] rfl rfl rfl rfl rfl rfl (by exact .cons rfl trivial (RowEq.cl (tape_cl _ _ _)) .nil) (inputs_r n g at_ hn b1 b2) (by exact ⟨PEq.refl _, trivial⟩) ?_⟩
          rintro r rows ⟨at_, kk, N, b1, b2, hN, hI, rfl, rfl⟩
          refine ⟨_, _, rfl, ⟨tape_cl _ _ _, o_cl cIn_cl _ _ _, trivial⟩, rfl, ?_⟩
          refine xs_growN 3 rfl rfl trivial ?_
          refine xs rfl ⟨⟨trivial, trivial, Int.le_refl _, Int.le_refl _, Int.natCast_nonneg _⟩, trivial⟩ ?_
          exact pd [0, 1, 2, 3] (ih 1 false false false false (sT h) rfl at_ kk N d0 d1 x0 x1 x2 x3 x4 x5 b1 b2 ⟨nb, nb, nb, nb, nb, nb, nb, nb⟩)
      · cases ho
      · cases ho
      · cases ho
      · cases ho
      · cases ho
      · cases ho
      · cases ho
      · cases ho
      · cases ho
      · cases ho
      · cases ho
      · cases ho
      · cases ho
      · cases ho
      · cases ho
    · cases p <;> cases q <;> cases r <;> cases z
      · refine bD (LD 1 false false false false) [(6, [], false, 16)] (.cons ?_ (.nil))
        · refine t3 (scale_t n_w tR 0) hn ?_
          rintro at_ _ b1 b2 ⟨d0, rfl, hnew⟩
          exact pd [0, 1, 2, 3] (ih 2 false false false false (sT h) rfl at_ kk N d0 d1 x0 x1 x2 x3 x4 x5 b1 b2 ⟨fun _ => hnew, nb, nb, nb, nb, nb, nb, nb⟩)
      · cases ho
      · cases ho
      · cases ho
      · cases ho
      · cases ho
      · cases ho
      · cases ho
      · cases ho
      · cases ho
      · cases ho
      · cases ho
      · cases ho
      · cases ho
      · cases ho
      · cases ho
    · cases p <;> cases q <;> cases r <;> cases z
      · refine bD (LD 2 false false false false) [(9, [], false, 15)] (.cons ?_ (.nil))
        · refine t3 (scale_t n_s t0 0) hn ?_
          rintro at_ _ b1 b2 ⟨d1, rfl, hnew⟩
          exact pd [0, 1, 2, 3] (ih 3 false false false false (sT h) rfl at_ kk N d0 d1 x0 x1 x2 x3 x4 x5 b1 b2 ⟨fun _ => hv.hw rfl, fun _ => hnew, nb, nb, nb, nb, nb, nb⟩)
      · cases ho
      · cases ho
      · cases ho
      · cases ho
      · cases ho
      · cases ho
      · cases ho
      · cases ho
      · cases ho
      · cases ho
      · cases ho
      · cases ho
      · cases ho
      · cases ho
      · cases ho
    · cases p <;> cases q <;> cases r <;> cases z
      · refine bD (LD 3 false false false false) [(10, [], false, 14), (12, [], false, 14)] (.cons ?_ (.cons ?_ (.nil)))
        · refine nw rfl rfl rfl trivial ?_
          exact pd [0, 1, 2, 3, 4] (ih 3 true false false false (sT h) rfl at_ kk N d0 d1 x0 x1 x2 x3 x4 x5 b1 b2 hv)
        · refine t3 decimal_t hn ?_
          rintro at_ _ b1 b2 ⟨x0, rfl, hnew⟩
          exact pd [0, 1, 2, 3] (ih 4 false false false false (sT h) rfl at_ kk N d0 d1 x0 x1 x2 x3 x4 x5 b1 b2 ⟨fun _ => hv.hw rfl, fun _ => hv.hs rfl, fun _ => hnew, nb, nb, nb, nb, nb⟩)
      · cases ho
      · cases ho
      · cases ho
      · cases ho
      · cases ho
      · cases ho
      · cases ho
      · refine bD (LD 3 true false false false) [(12, [], false, 13)] (.cons ?_ (.nil))
        · refine t3 decimal_t hn ?_
          rintro at_ _ b1 b2 ⟨x0, rfl, hnew⟩
          exact pd [0, 1, 2, 3, 4] (ih 4 true false false false (sT h) rfl at_ kk N d0 d1 x0 x1 x2 x3 x4 x5 b1 b2 ⟨fun _ => hv.hw rfl, fun _ => hv.hs rfl, fun _ => hnew, nb, nb, nb, nb, nb⟩)
      · cases ho
      · cases ho
      · cases ho
      · cases ho
      · cases ho
      · cases ho
      · cases ho
    · cases p <;> cases q <;> cases r <;> cases z
      · refine bD (LD 4 false false false false) [(10, [], false, 13), (14, [], false, 13)] (.cons ?_ (.cons ?_ (.nil)))
        · refine nw rfl rfl rfl trivial ?_
          exact pd [0, 1, 2, 3, 4] (ih 4 true false false false (sT h) rfl at_ kk N d0 d1 x0 x1 x2 x3 x4 x5 b1 b2 hv)
        · refine t3 decimal_t hn ?_
          rintro at_ _ b1 b2 ⟨x1, rfl, hnew⟩
          exact pd [0, 1, 2, 3] (ih 5 false false false false (sT h) rfl at_ kk N d0 d1 x0 x1 x2 x3 x4 x5 b1 b2 ⟨fun _ => hv.hw rfl, fun _ => hv.hs rfl, fun _ => hv.hx0 rfl, fun _ => hnew, nb, nb, nb, nb⟩)
      · cases ho
      · cases ho
      · cases ho
      · cases ho
      · cases ho
      · cases ho
      · cases ho
      · refine bD (LD 4 true false false false) [(14, [], false, 12)] (.cons ?_ (.nil))
        · refine t3 decimal_t hn ?_
          rintro at_ _ b1 b2 ⟨x1, rfl, hnew⟩
          exact pd [0, 1, 2, 3, 4] (ih 5 true false false false (sT h) rfl at_ kk N d0 d1 x0 x1 x2 x3 x4 x5 b1 b2 ⟨fun _ => hv.hw rfl, fun _ => hv.hs rfl, fun _ => hv.hx0 rfl, fun _ => hnew, nb, nb, nb, nb⟩)
      · cases ho
      · cases ho
      · cases ho
      · cases ho
      · cases ho
      · cases ho
      · cases ho
    · cases p <;> cases q <;> cases r <;> cases z
      · refine bD (LD 5 false false false false) [(10, [], false, 12), (16, [], false, 12)] (.cons ?_ (.cons ?_ (.nil)))
        · refine nw rfl rfl rfl trivial ?_
          exact pd [0, 1, 2, 3, 4] (ih 5 true false false false (sT h) rfl at_ kk N d0 d1 x0 x1 x2 x3 x4 x5 b1 b2 hv)
        · refine t3 decimal_t hn ?_
          rintro at_ _ b1 b2 ⟨x2, rfl, hnew⟩
          exact pd [0, 1, 2, 3] (ih 6 false false false false (sT h) rfl at_ kk N d0 d1 x0 x1 x2 x3 x4 x5 b1 b2 ⟨fun _ => hv.hw rfl, fun _ => hv.hs rfl, fun _ => hv.hx0 rfl, fun _ => hv.hx1 rfl, fun _ => hnew, nb, nb, nb⟩)
      · cases ho
      · cases ho
      · cases ho
      · cases ho
      · cases ho
      · cases ho
      · cases ho
      · refine bD (LD 5 true false false false) [(16, [], false, 11)] (.cons ?_ (.nil))
        · refine t3 decimal_t hn ?_
          rintro at_ _ b1 b2 ⟨x2, rfl, hnew⟩
          exact pd [0, 1, 2, 3, 4] (ih 6 true false false false (sT h) rfl at_ kk N d0 d1 x0 x1 x2 x3 x4 x5 b1 b2 ⟨fun _ => hv.hw rfl, fun _ => hv.hs rfl, fun _ => hv.hx0 rfl, fun _ => hv.hx1 rfl, fun _ => hnew, nb, nb, nb⟩)
      · cases ho
      · cases ho
      · cases ho
      · cases ho
      · cases ho
      · cases ho
      · cases ho
    · cases p <;> cases q <;> cases r <;> cases z
      · refine bD (LD 6 false false false false) [(10, [], false, 11), (17, [.take 18], false, 10), (20, [], false, 11)] (.cons ?_ (.cons ?_ (.cons ?_ (.nil))))
        · refine nw rfl rfl rfl trivial ?_
          exact pd [0, 1, 2, 3, 4] (ih 6 true false false false (sT h) rfl at_ kk N d0 d1 x0 x1 x2 x3 x4 x5 b1 b2 hv)
        · refine nw rfl rfl rfl trivial ?_
          repeat' (first | refine xs rfl ?_ ?_ | exact trivial | ((with_reducible (show AllP (_ :: _))); refine And.intro ?_ ?_) | exact qq | fail)
          exact pd [0, 1, 2, 3, 4] (ih 6 false true false false (sT h) rfl at_ kk N d0 d1 x0 x1 x2 x3 x4 x5 b1 b2 hv)
        · refine t3 decimal_t hn ?_
          rintro at_ _ b1 b2 ⟨x3, rfl, hnew⟩
          exact pd [0, 1, 2, 3] (ih 7 false false false false (sT h) rfl at_ kk N d0 d1 x0 x1 x2 x3 x4 x5 b1 b2 ⟨fun _ => hv.hw rfl, fun _ => hv.hs rfl, fun _ => hv.hx0 rfl, fun _ => hv.hx1 rfl, fun _ => hv.hx2 rfl, fun _ => hnew, nb, nb⟩)
      · cases ho
      · cases ho
      · cases ho
      · refine bD (LD 6 false true false false) [(10, [], false, 9), (20, [], false, 9)] (.cons ?_ (.cons ?_ (.nil)))
        · refine nw rfl rfl rfl trivial ?_
          exact pd [0, 1, 2, 3, 4, 5] (ih 6 true true false false (sT h) rfl at_ kk N d0 d1 x0 x1 x2 x3 x4 x5 b1 b2 hv)
        · refine t3 decimal_t hn ?_
          rintro at_ _ b1 b2 ⟨x3, rfl, hnew⟩
          exact pd [0, 1, 2, 3, 4] (ih 7 false true false false (sT h) rfl at_ kk N d0 d1 x0 x1 x2 x3 x4 x5 b1 b2 ⟨fun _ => hv.hw rfl, fun _ => hv.hs rfl, fun _ => hv.hx0 rfl, fun _ => hv.hx1 rfl, fun _ => hv.hx2 rfl, fun _ => hnew, nb, nb⟩)
      · cases ho
      · cases ho
      · cases ho
      · refine bD (LD 6 true false false false) [(17, [.take 18], false, 9), (20, [], false, 10)] (.cons ?_ (.cons ?_ (.nil)))
        · refine nw rfl rfl rfl trivial ?_
          repeat' (first | refine xs rfl ?_ ?_ | exact trivial | ((with_reducible (show AllP (_ :: _))); refine And.intro ?_ ?_) | exact qq | fail)
          exact pd [0, 1, 2, 3, 5, 4] (ih 6 true true false false (sT h) rfl at_ kk N d0 d1 x0 x1 x2 x3 x4 x5 b1 b2 hv)
        · refine t3 decimal_t hn ?_
          rintro at_ _ b1 b2 ⟨x3, rfl, hnew⟩
          exact pd [0, 1, 2, 3, 4] (ih 7 true false false false (sT h) rfl at_ kk N d0 d1 x0 x1 x2 x3 x4 x5 b1 b2 ⟨fun _ => hv.hw rfl, fun _ => hv.hs rfl, fun _ => hv.hx0 rfl, fun _ => hv.hx1 rfl, fun _ => hv.hx2 rfl, fun _ => hnew, nb, nb⟩)
      · cases ho
      · cases ho
      · cases ho
      · refine bD (LD 6 true true false false) [(20, [], false, 8)] (.cons ?_ (.nil))
        · refine t3 decimal_t hn ?_
          rintro at_ _ b1 b2 ⟨x3, rfl, hnew⟩
          exact pd [0, 1, 2, 3, 4, 5] (ih 7 true true false false (sT h) rfl at_ kk N d0 d1 x0 x1 x2 x3 x4 x5 b1 b2 ⟨fun _ => hv.hw rfl, fun _ => hv.hs rfl, fun _ => hv.hx0 rfl, fun _ => hv.hx1 rfl, fun _ => hv.hx2 rfl, fun _ => hnew, nb, nb⟩)
      · cases ho
      · cases ho
      · cases ho
    · cases p <;> cases q <;> cases r <;> cases z
      · refine bD (LD 7 false false false false) [(10, [], false, 10), (17, [.take 18], false, 9), (22, [], false, 10)] (.cons ?_ (.cons ?_ (.cons ?_ (.nil))))
        · refine nw rfl rfl rfl trivial ?_
          exact pd [0, 1, 2, 3, 4] (ih 7 true false false false (sT h) rfl at_ kk N d0 d1 x0 x1 x2 x3 x4 x5 b1 b2 hv)
        · refine nw rfl rfl rfl trivial ?_
          repeat' (first | refine xs rfl ?_ ?_ | exact trivial | ((with_reducible (show AllP (_ :: _))); refine And.intro ?_ ?_) | exact qq | fail)
          exact pd [0, 1, 2, 3, 4] (ih 7 false true false false (sT h) rfl at_ kk N d0 d1 x0 x1 x2 x3 x4 x5 b1 b2 hv)
        · refine t3 decimal_t hn ?_
          rintro at_ _ b1 b2 ⟨x4, rfl, hnew⟩
          exact pd [0, 1, 2, 3] (ih 8 false false false false (sT h) rfl at_ kk N d0 d1 x0 x1 x2 x3 x4 x5 b1 b2 ⟨fun _ => hv.hw rfl, fun _ => hv.hs rfl, fun _ => hv.hx0 rfl, fun _ => hv.hx1 rfl, fun _ => hv.hx2 rfl, fun _ => hv.hx3 rfl, fun _ => hnew, nb⟩)
      · cases ho
      · cases ho
      · cases ho
      · refine bD (LD 7 false true false false) [(10, [], false, 8), (22, [], false, 8)] (.cons ?_ (.cons ?_ (.nil)))
        · refine nw rfl rfl rfl trivial ?_
          exact pd [0, 1, 2, 3, 4, 5] (ih 7 true true false false (sT h) rfl at_ kk N d0 d1 x0 x1 x2 x3 x4 x5 b1 b2 hv)
        · refine t3 decimal_t hn ?_
          rintro at_ _ b1 b2 ⟨x4, rfl, hnew⟩
          exact pd [0, 1, 2, 3, 4] (ih 8 false true false false (sT h) rfl at_ kk N d0 d1 x0 x1 x2 x3 x4 x5 b1 b2 ⟨fun _ => hv.hw rfl, fun _ => hv.hs rfl, fun _ => hv.hx0 rfl, fun _ => hv.hx1 rfl, fun _ => hv.hx2 rfl, fun _ => hv.hx3 rfl, fun _ => hnew, nb⟩)
      · cases ho
      · cases ho
      · cases ho
      · refine bD (LD 7 true false false false) [(17, [.take 18], false, 8), (22, [], false, 9)] (.cons ?_ (.cons ?_ (.nil)))
        · refine nw rfl rfl rfl trivial ?_
          repeat' (first | refine xs rfl ?_ ?_ | exact trivial | ((with_reducible (show AllP (_ :: _))); refine And.intro ?_ ?_) | exact qq | fail)
          exact pd [0, 1, 2, 3, 5, 4] (ih 7 true true false false (sT h) rfl at_ kk N d0 d1 x0 x1 x2 x3 x4 x5 b1 b2 hv)
        · refine t3 decimal_t hn ?_
          rintro at_ _ b1 b2 ⟨x4, rfl, hnew⟩
          exact pd [0, 1, 2, 3, 4] (ih 8 true false false false (sT h) rfl at_ kk N d0 d1 x0 x1 x2 x3 x4 x5 b1 b2 ⟨fun _ => hv.hw rfl, fun _ => hv.hs rfl, fun _ => hv.hx0 rfl, fun _ => hv.hx1 rfl, fun _ => hv.hx2 rfl, fun _ => hv.hx3 rfl, fun _ => hnew, nb⟩)
      · cases ho
      · cases ho
      · cases ho
      · refine bD (LD 7 true true false false) [(22, [], false, 7)] (.cons ?_ (.nil))
        · refine t3 decimal_t hn ?_
          rintro at_ _ b1 b2 ⟨x4, rfl, hnew⟩
          exact pd [0, 1, 2, 3, 4, 5] (ih 8 true true false false (sT h) rfl at_ kk N d0 d1 x0 x1 x2 x3 x4 x5 b1 b2 ⟨fun _ => hv.hw rfl, fun _ => hv.hs rfl, fun _ => hv.hx0 rfl, fun _ => hv.hx1 rfl, fun _ => hv.hx2 rfl, fun _ => hv.hx3 rfl, fun _ => hnew, nb⟩)
      · cases ho
      · cases ho
      · cases ho
    · cases p <;> cases q <;> cases r <;> cases z
      · refine bD (LD 8 false false false false) [(10, [], false, 9), (17, [.take 18], false, 8), (24, [.take 28], false, 8)] (.cons ?_ (.cons ?_ (.cons ?_ (.nil))))
        · refine nw rfl rfl rfl trivial ?_
          exact pd [0, 1, 2, 3, 4] (ih 8 true false false false (sT h) rfl at_ kk N d0 d1 x0 x1 x2 x3 x4 x5 b1 b2 hv)
        · refine nw rfl rfl rfl trivial ?_
          repeat' (first | refine xs rfl ?_ ?_ | exact trivial | ((with_reducible (show AllP (_ :: _))); refine And.intro ?_ ?_) | exact qq | fail)
          exact pd [0, 1, 2, 3, 4] (ih 8 false true false false (sT h) rfl at_ kk N d0 d1 x0 x1 x2 x3 x4 x5 b1 b2 hv)
        · refine t3 decimal_t hn ?_
          rintro at_ _ b1 b2 ⟨x5, rfl, hnew⟩
          repeat' (first | refine xs rfl ?_ ?_ | exact trivial | ((with_reducible (show AllP (_ :: _))); refine And.intro ?_ ?_) | exact qq | fail)
          exact pd [0, 1, 2, 3] (ih 9 false false false false (sT h) rfl at_ kk N d0 d1 x0 x1 x2 x3 x4 x5 b1 b2 ⟨fun _ => hv.hw rfl, fun _ => hv.hs rfl, fun _ => hv.hx0 rfl, fun _ => hv.hx1 rfl, fun _ => hv.hx2 rfl, fun _ => hv.hx3 rfl, fun _ => hv.hx4 rfl, fun _ => hnew⟩)
      · cases ho
      · cases ho
      · cases ho
      · refine bD (LD 8 false true false false) [(10, [], false, 7), (24, [.take 28], false, 6)] (.cons ?_ (.cons ?_ (.nil)))
        · refine nw rfl rfl rfl trivial ?_
          exact pd [0, 1, 2, 3, 4, 5] (ih 8 true true false false (sT h) rfl at_ kk N d0 d1 x0 x1 x2 x3 x4 x5 b1 b2 hv)
        · refine t3 decimal_t hn ?_
          rintro at_ _ b1 b2 ⟨x5, rfl, hnew⟩
          repeat' (first | refine xs rfl ?_ ?_ | exact trivial | ((with_reducible (show AllP (_ :: _))); refine And.intro ?_ ?_) | exact qq | fail)
          exact pd [0, 1, 2, 3, 4] (ih 9 false true false false (sT h) rfl at_ kk N d0 d1 x0 x1 x2 x3 x4 x5 b1 b2 ⟨fun _ => hv.hw rfl, fun _ => hv.hs rfl, fun _ => hv.hx0 rfl, fun _ => hv.hx1 rfl, fun _ => hv.hx2 rfl, fun _ => hv.hx3 rfl, fun _ => hv.hx4 rfl, fun _ => hnew⟩)
      · cases ho
      · cases ho
      · cases ho
      · refine bD (LD 8 true false false false) [(17, [.take 18], false, 7), (24, [.take 28, .take 29], false, 6)] (.cons ?_ (.cons ?_ (.nil)))
        · refine nw rfl rfl rfl trivial ?_
          repeat' (first | refine xs rfl ?_ ?_ | exact trivial | ((with_reducible (show AllP (_ :: _))); refine And.intro ?_ ?_) | exact qq | fail)
          exact pd [0, 1, 2, 3, 5, 4] (ih 8 true true false false (sT h) rfl at_ kk N d0 d1 x0 x1 x2 x3 x4 x5 b1 b2 hv)
        · refine t3 decimal_t hn ?_
          rintro at_ _ b1 b2 ⟨x5, rfl, hnew⟩
          repeat' (first | refine xs rfl ?_ ?_ | exact trivial | ((with_reducible (show AllP (_ :: _))); refine And.intro ?_ ?_) | exact qq | fail)
          exact pd [0, 1, 2, 3, 4] (ih 9 true false false false (sT h) rfl at_ kk N d0 d1 x0 x1 x2 x3 x4 x5 b1 b2 ⟨fun _ => hv.hw rfl, fun _ => hv.hs rfl, fun _ => hv.hx0 rfl, fun _ => hv.hx1 rfl, fun _ => hv.hx2 rfl, fun _ => hv.hx3 rfl, fun _ => hv.hx4 rfl, fun _ => hnew⟩)
      · cases ho
      · cases ho
      · cases ho
      · refine bD (LD 8 true true false false) [(24, [.take 28, .take 29], false, 4)] (.cons ?_ (.nil))
        · refine t3 decimal_t hn ?_
          rintro at_ _ b1 b2 ⟨x5, rfl, hnew⟩
          repeat' (first | refine xs rfl ?_ ?_ | exact trivial | ((with_reducible (show AllP (_ :: _))); refine And.intro ?_ ?_) | exact qq | fail)
          exact pd [0, 1, 2, 3, 4, 5] (ih 9 true true false false (sT h) rfl at_ kk N d0 d1 x0 x1 x2 x3 x4 x5 b1 b2 ⟨fun _ => hv.hw rfl, fun _ => hv.hs rfl, fun _ => hv.hx0 rfl, fun _ => hv.hx1 rfl, fun _ => hv.hx2 rfl, fun _ => hv.hx3 rfl, fun _ => hv.hx4 rfl, fun _ => hnew⟩)
      · cases ho
      · cases ho
      · cases ho
    · cases p <;> cases q <;> cases r <;> cases z
      · refine bD (LD 9 false false false false) [(10, [.take 29], false, 6), (17, [.take 18], false, 6), (25, [.take 26], false, 6)] (.cons ?_ (.cons ?_ (.cons ?_ (.nil))))
        · refine nw rfl rfl rfl trivial ?_
          repeat' (first | refine xs rfl ?_ ?_ | exact trivial | ((with_reducible (show AllP (_ :: _))); refine And.intro ?_ ?_) | exact qq | fail)
          exact pd [0, 1, 2, 3, 4] (ih 9 true false false false (sT h) rfl at_ kk N d0 d1 x0 x1 x2 x3 x4 x5 b1 b2 hv)
        · refine nw rfl rfl rfl trivial ?_
          repeat' (first | refine xs rfl ?_ ?_ | exact trivial | ((with_reducible (show AllP (_ :: _))); refine And.intro ?_ ?_) | exact qq | fail)
          exact pd [0, 1, 2, 3, 4] (ih 9 false true false false (sT h) rfl at_ kk N d0 d1 x0 x1 x2 x3 x4 x5 b1 b2 hv)
        · refine nw rfl rfl rfl trivial ?_
          repeat' (first | refine xs rfl ?_ ?_ | exact trivial | ((with_reducible (show AllP (_ :: _))); refine And.intro ?_ ?_) | exact qq | fail)
          exact pd [0, 1, 2, 3, 4] (ih 9 false false true false (sT h) rfl at_ kk N d0 d1 x0 x1 x2 x3 x4 x5 b1 b2 hv)
      · cases ho
      · refine bD (LD 9 false false true false) [(10, [.take 29], false, 4), (17, [.take 18], false, 4)] (.cons ?_ (.cons ?_ (.nil)))
        · refine nw rfl rfl rfl trivial ?_
          repeat' (first | refine xs rfl ?_ ?_ | exact trivial | ((with_reducible (show AllP (_ :: _))); refine And.intro ?_ ?_) | exact qq | fail)
          exact pd [0, 1, 2, 3, 4, 5] (ih 9 true false true false (sT h) rfl at_ kk N d0 d1 x0 x1 x2 x3 x4 x5 b1 b2 hv)
        · refine nw rfl rfl rfl trivial ?_
          repeat' (first | refine xs rfl ?_ ?_ | exact trivial | ((with_reducible (show AllP (_ :: _))); refine And.intro ?_ ?_) | exact qq | fail)
          exact pd [0, 1, 2, 3, 5, 4] (ih 9 false true true false (sT h) rfl at_ kk N d0 d1 x0 x1 x2 x3 x4 x5 b1 b2 hv)
      · cases ho
      · refine bD (LD 9 false true false false) [(10, [.take 29], false, 4), (25, [.take 26], false, 4)] (.cons ?_ (.cons ?_ (.nil)))
        · refine nw rfl rfl rfl trivial ?_
          repeat' (first | refine xs rfl ?_ ?_ | exact trivial | ((with_reducible (show AllP (_ :: _))); refine And.intro ?_ ?_) | exact qq | fail)
          exact pd [0, 1, 2, 3, 4, 5] (ih 9 true true false false (sT h) rfl at_ kk N d0 d1 x0 x1 x2 x3 x4 x5 b1 b2 hv)
        · refine nw rfl rfl rfl trivial ?_
          repeat' (first | refine xs rfl ?_ ?_ | exact trivial | ((with_reducible (show AllP (_ :: _))); refine And.intro ?_ ?_) | exact qq | fail)
          exact pd [0, 1, 2, 3, 4, 5] (ih 9 false true true false (sT h) rfl at_ kk N d0 d1 x0 x1 x2 x3 x4 x5 b1 b2 hv)
      · cases ho
      · refine bD (LD 9 false true true false) [(10, [.take 29], false, 2), (27, [], false, 3)] (.cons ?_ (.cons ?_ (.nil)))
        · refine nw rfl rfl rfl trivial ?_
          repeat' (first | refine xs rfl ?_ ?_ | exact trivial | ((with_reducible (show AllP (_ :: _))); refine And.intro ?_ ?_) | exact qq | fail)
          exact pd [0, 1, 2, 3, 4, 5, 6] (ih 9 true true true false (sT h) rfl at_ kk N d0 d1 x0 x1 x2 x3 x4 x5 b1 b2 hv)
        · refine nw rfl rfl rfl trivial ?_
          exact pd [0, 1, 2, 3, 4, 5, 6] (ih 9 false true true true (sT h) rfl at_ kk N d0 d1 x0 x1 x2 x3 x4 x5 b1 b2 hv)
      · refine bD (LD 9 false true true true) [(10, [.take 29, .take 30], true, 0)] (.cons ?_ (.nil))
        · refine nw rfl rfl rfl trivial ?_
          repeat' (first | refine xs rfl ?_ ?_ | exact trivial | ((with_reducible (show AllP (_ :: _))); refine And.intro ?_ ?_) | exact qq | fail)
          refine xs_done ?_
          exact hK at_ kk N d0 d1 x0 x1 x2 x3 x4 x5 b1 b2 hv _ (can_rowsv [0, 1, 2, 3, 4, 5, 6, 7] (k0_sel (show Γ.k0 = 0 from hk) rfl) rfl svD tvD)
      · refine bD (LD 9 true false false false) [(17, [.take 18], false, 4), (25, [.take 26], false, 4)] (.cons ?_ (.cons ?_ (.nil)))
        · refine nw rfl rfl rfl trivial ?_
          repeat' (first | refine xs rfl ?_ ?_ | exact trivial | ((with_reducible (show AllP (_ :: _))); refine And.intro ?_ ?_) | exact qq | fail)
          exact pd [0, 1, 2, 3, 5, 4] (ih 9 true true false false (sT h) rfl at_ kk N d0 d1 x0 x1 x2 x3 x4 x5 b1 b2 hv)
        · refine nw rfl rfl rfl trivial ?_
          repeat' (first | refine xs rfl ?_ ?_ | exact trivial | ((with_reducible (show AllP (_ :: _))); refine And.intro ?_ ?_) | exact qq | fail)
          exact pd [0, 1, 2, 3, 5, 4] (ih 9 true false true false (sT h) rfl at_ kk N d0 d1 x0 x1 x2 x3 x4 x5 b1 b2 hv)
      · cases ho
      · refine bD (LD 9 true false true false) [(17, [.take 18], false, 2)] (.cons ?_ (.nil))
        · refine nw rfl rfl rfl trivial ?_
          repeat' (first | refine xs rfl ?_ ?_ | exact trivial | ((with_reducible (show AllP (_ :: _))); refine And.intro ?_ ?_) | exact qq | fail)
          exact pd [0, 1, 2, 3, 6, 4, 5] (ih 9 true true true false (sT h) rfl at_ kk N d0 d1 x0 x1 x2 x3 x4 x5 b1 b2 hv)
      · cases ho
      · refine bD (LD 9 true true false false) [(25, [.take 26], false, 2)] (.cons ?_ (.nil))
        · refine nw rfl rfl rfl trivial ?_
          repeat' (first | refine xs rfl ?_ ?_ | exact trivial | ((with_reducible (show AllP (_ :: _))); refine And.intro ?_ ?_) | exact qq | fail)
          exact pd [0, 1, 2, 3, 4, 6, 5] (ih 9 true true true false (sT h) rfl at_ kk N d0 d1 x0 x1 x2 x3 x4 x5 b1 b2 hv)
      · cases ho
      · refine bD (LD 9 true true true false) [(27, [.take 30], true, 0)] (.cons ?_ (.nil))
        · refine nw rfl rfl rfl trivial ?_
          repeat' (first | refine xs rfl ?_ ?_ | exact trivial | ((with_reducible (show AllP (_ :: _))); refine And.intro ?_ ?_) | exact qq | fail)
          refine xs_done ?_
          exact hK at_ kk N d0 d1 x0 x1 x2 x3 x4 x5 b1 b2 hv _ (can_rowsv [0, 1, 2, 3, 4, 5, 7, 6] (k0_sel (show Γ.k0 = 0 from hk) rfl) rfl svD tvD)
      · cases ho
end Go.Proofs.YtcghpepighboaaaDoor
