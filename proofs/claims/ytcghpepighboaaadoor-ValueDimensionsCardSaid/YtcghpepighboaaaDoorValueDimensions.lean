/- ValueDimensions: the given statement, for every input: the law returns true and leaves its arguments alone. No conditions. -/
import Derived.Test.YtcghpepighboaaaDoorDm5
import Derived.Test.YtcghpepighboaaaDoorTy22
import Derived.Test.YtcghpepighboaaaDoorV22
import Derived.Test.YtcghpepighboaaaDoorX17
import Derived.Test.YtcghpepighboaaaDoorPvMap
import Derived.Test.YtcghpepighboaaaDoorBridge
import Derived.Test.YtcghpepighboaaaDoorGlo
import Derived.ProofKit
import Derived.OpenShut
import Derived.ShutString
import Derived.ChangeOld
import Derived.Lib.SmallJoins
import Derived.Test.YtcghpepighboaaaDoorTie
import Derived.Test.YtcghpepighboaaaDoorCards
import Derived.LaidMore
set_option linter.unusedSimpArgs false
set_option linter.unusedVariables false
set_option maxRecDepth 100000
namespace Go.Proofs.YtcghpepighboaaaDoor
open Go.MapKept
section
variable {G : Pg2} {N : Nat} {Γ : Fr} {st : PSt} {ops : Array Oper} {o : Oper} {d l : Nat} {K' : PSt → Prop} {KT : Type} [DecidableEq KT] {kv : KT → Value} {t : TypeId} {x y : Operand} {m : List (KT × Int)}
theorem pst_look (M : MapT G.P t kv) (kk : KT) (hg : o.guard = none) (hd : o.dst = some d) (hN : Nat.blt d N = true) (ho : o.op = .lookup t x y false) (hx : st.ev x = .mref l) (hy : st.ev y = .val (kv kk)) (hr : rowAt st.mem l = some (mRow kv m))
    (h : K' (st.put d (vi ((mget m kk).getD 0)))) : PStep G N Γ ops o st [] true K' := .mk fun ρ I a w hrel Q => by
  have hw : Region.wanted o (yielded ops a.tmps) = true := by simp [Region.wanted, hg]
  rw [if_pos hw]
  rw [rowAt_get] at hr
  have hxv := ev_rel hrel x
  rw [hx] at hxv
  obtain ⟨_, hxv⟩ := hxv
  have hyv := ev_rel hrel y
  rw [hy] at hyv
  have hyv : a.eval y = kv kk := hyv
  obtain ⟨_, _, hs⟩ := hrel.fr.m.side l _ hr rfl
  obtain ⟨es, clock, q1, q2, q3⟩ := (hs Nat.zero_lt_one).1 rfl
  have hv : (execOp a.eval o).run G.P w = .ok (.value (.int .i64 ((mget m kk).getD 0))) w := by
    unfold execOp
    rw [ho]
    simp only [hxv, hyv, Sem.run_bind, run_look M q1 (mapV_eq q3) q2 kk false, Result.andThen, Sem.run_pure]
    rfl
  simp only [Oper.wp, hv, Oper.upon_value, hd]
  exact ⟨_, ρ, I, h, hrel.put (by rwa [Nat.blt_eq] at hN) rfl, Chg.refl (Ext.refl w) d _⟩
end
section
variable {G : Pg} {N : Nat} {Γ : Fr} {st : PSt} {K : Exit → PSt → Prop} {ops : Array Oper} {o : Oper} {rest : List Oper} {l : Nat} {KT : Type} [DecidableEq KT] {kv : KT → Value} {t : TypeId} {x y z : Operand} {m : List (KT × Int)}
theorem pop_mins (M : MapT G.P t kv) (kk : KT) (v : Int) (hg : o.guard = none) (hd : o.dst = none) (ho : o.op = .insert t x y z) (hx : st.ev x = .mref l) (hy : st.ev y = .val (kv kk)) (hz : st.ev z = vi v) (hr : rowAt st.mem l = some (mRow kv m)) (hk : Γ.k0 ≤ l) (hni : noIt st.mem = true) {m' : List Row}
    (hm : setM st.mem l (mRow kv (mset m kk v)) some = some m') (h : POps G N Γ ops rest ⟨st.tm, m'⟩ K) : POps G N Γ ops (o :: rest) st K := .mk fun ρ I a w hrel => by
  have hw : Region.wanted o (yielded ops a.tmps) = true := by simp [Region.wanted, hg]
  simp only [wpList, hw, if_true]
  refine .inl ?_
  rw [rowAt_get] at hr
  rw [setM_eq] at hm
  simp only [Option.some.injEq] at hm
  subst hm
  have hxv := ev_rel hrel x
  rw [hx] at hxv
  obtain ⟨_, hxv⟩ := hxv
  have hyv := ev_rel hrel y
  rw [hy] at hyv
  have hyv : a.eval y = kv kk := hyv
  have hzv := ev_rel hrel z
  rw [hz] at hzv
  have hzv : a.eval z = .int .i64 v := hzv
  obtain ⟨_, _, hs⟩ := hrel.fr.m.side l _ hr rfl
  obtain ⟨es, clock, q1, q2, q3⟩ := (hs Nat.zero_lt_one).1 rfl
  obtain ⟨es', clock', g1, g2, g3⟩ := run_mset M q1 (mapV_eq q3) q2 kk v
  have hv : (execOp a.eval o).run G.P w = .ok .skip { w with heap := w.heap.setIfInBounds (ρ l).b (.map es' clock') } := by
    unfold execOp
    rw [ho]
    simp only [hxv, hyv, hzv, Sem.run_bind, g1, Result.andThen, Sem.run_pure]
  simp only [Oper.wp, hv, Oper.upon_skip, hd, Act.put]
  refine h.go ρ I _ _ (hrel.setMap hr rfl hk hni (mRow kv (mset m kk v)) rfl rfl g2 fun k' ρ' w' => ?_)
  show mapV es' = mV kv (mset m kk v)
  have := congrArg (List.map fun e : Value × Value => Value.tuple #[e.1, e.2]) g3
  rw [List.map_map, List.map_map] at this
  unfold mapV mV
  congr 1
  apply Array.ext'
  rw [Array.toList_map]
  exact this
end
def mapSI : MapT G.P 74 kS := ⟨9, 3, _, Tryd.underlying74, Tryd.underlying9, fun _ => trivial, kS_inj, Tryd.zeroValue3⟩
theorem nth_app1 {l' : List PV} : ∀ {l : List PV} {i : Nat}, i < l.length → nthP (l ++ l') i = nthP l i
  | [], _, h => absurd h (Nat.not_lt_zero _)
  | _ :: _, 0, _ => rfl
  | _ :: l, i + 1, h => nth_app1 (l := l) (i := i) (Nat.lt_of_succ_lt_succ h)
theorem nth_app2 {l' : List PV} {i : Nat} : ∀ {l : List PV}, nthP (l ++ l') (l.length + i) = nthP l' i
  | [] => by rw [List.nil_append, List.length_nil, Nat.zero_add]
  | _ :: l => by
    rw [List.length_cons, show l.length + 1 + i = (l.length + i) + 1 by omega]
    exact nth_app2 (l := l)
theorem argD2 {mem : List Row} {L : List Nat} {r : Nat} {d0 d1 : Df} (hr : rowAt mem r = some (rS2 d0 d1)) (hL : r ∈ L) : ArgOk mem L (.lsl r 0 2) (vDs [d0, d1]) :=
  argLsl (r := rS2 d0 d1) hr trivial hL (Nat.le_refl _) fun a ha b hb => by
    have hb : b < 21 := hb
    refine ⟨?_, tF_cl cD_cl _ a b⟩
    show nthP (cD d0 ++ cD d1) ((0 + a) * 21 + b) = nthP (cD (lF dD [d0, d1] a)) b
    rcases (by omega : a = 0 ∨ a = 1) with rfl | rfl
    · rw [show (0 + 0) * 21 + b = b by omega]; exact nth_app1 (l := cD d0) hb
    · rw [show (0 + 1) * 21 + b = 21 + b by omega]; exact nth_app2 (l := cD d0)
theorem cPr_cl2 : CellsCl cPr := fun _ => ⟨trivial, trivial, trivial⟩
theorem argV3 {mem : List Row} {L : List Nat} {r : Nat} {x y z : Int × Int} (hr : rowAt mem r = some (rV3 x y z)) (hL : r ∈ L) : ArgOk mem L (.lsl r 0 3) (.vsl 3 2 (tF cPr (lF (0, 0) [x, y, z]))) :=
  argLsl (r := rV3 x y z) hr trivial hL (Nat.le_refl _) fun a ha b hb => by
    have hb : b < 2 := hb
    refine ⟨?_, tF_cl cPr_cl2 _ a b⟩
    rcases (by omega : a = 0 ∨ a = 1 ∨ a = 2) with rfl | rfl | rfl <;> rcases (by omega : b = 0 ∨ b = 1) with rfl | rfl <;> rfl
theorem argP2 {mem : List Row} {L : List Nat} {r a b : Nat} {x0 x1 x2 x3 x4 x5 : Int × Int} (hr : rowAt mem r = some (rP2 a b)) (h1 : rowAt mem a = some (rV3 x0 x1 x2)) (h2 : rowAt mem b = some (rV3 x3 x4 x5)) (hL : r ∈ L) (hL1 : a ∈ L) (hL2 : b ∈ L) : ArgOk mem L (.lsl r 0 2) (vPas [⟨n_gross, 3, lF (0, 0) [x0, x1, x2]⟩, ⟨n_time, 3, lF (0, 0) [x3, x4, x5]⟩]) :=
  argLsl' (r := rP2 a b) hr trivial hL (Nat.le_refl _) fun i hi j hj => by
    have hj : j < 2 := hj
    rcases (by omega : i = 0 ∨ i = 1) with rfl | rfl <;> rcases (by omega : j = 0 ∨ j = 1) with rfl | rfl
    · exact argVal
    · exact argV3 h1 hL1
    · exact argVal
    · exact argV3 h2 hL2
theorem dl_bd {x : Int × Int} (h : x ∈ decL) : -9223372036854775808 ≤ x.1 ∧ x.1 ≤ 9223372036854775807 := by
  have key : ∀ x ∈ decL, -9223372036854775808 ≤ x.1 ∧ x.1 ≤ 9223372036854775807 := by decide +kernel
  exact key x h
theorem arg8 {mem : List Row} {L : List Nat} {r : Nat} {y0 y1 y2 y3 y4 y5 : In} {zf zr : Int} (hr : rowAt mem r = some ⟨.own, false, 6 + 2, 3, appF 6 (fun x => tF cIn (lF dIn [y0, y1, y2, y3, y4, y5]) (0 + x)) (fun x b => nthP [vs n_f, vi zf, vi 1, vs n_r3, vi zr, vi 1] ((0 + x) * 3 + b))⟩) (hL : r ∈ L) : ArgOk mem L (.lsl r 0 (6 + 2)) (vIns [y0, y1, y2, y3, y4, y5, ⟨n_f, zf, 1⟩, ⟨n_r3, zr, 1⟩]) :=
  argIn hr rfl (Nat.le_refl _) hL fun a ha b hb => by
    rcases (by omega : a = 0 ∨ a = 1 ∨ a = 2 ∨ a = 3 ∨ a = 4 ∨ a = 5 ∨ a = 6 ∨ a = 7) with rfl | rfl | rfl | rfl | rfl | rfl | rfl | rfl <;> rcases (by omega : b = 0 ∨ b = 1 ∨ b = 2) with rfl | rfl | rfl <;> rfl
theorem ocanD {G : Pg} {N : Nat} {Γ : Fr} {st st' : PSt} {K : Exit → PSt → Prop} {ops : Array Oper} {l : List Oper} (hc : Can N Γ st st') (h : POps G N Γ ops l st' K) : POps G N Γ ops l st K := .mk fun ρ I a w hr => by
  obtain ⟨ρ', I', h1⟩ := hc ρ I a w hr
  exact h.go ρ' I' a w h1
abbrev M2 : List (ByteArray × Int) := mset (mset [] n_h 1) n_r1 (-1)
theorem mget_uh (s : ByteArray) : (mget M2 s).getD 0 = uhN s := by
  have e : M2 = [(n_h, 1), (n_r1, -1)] := by decide +kernel
  rw [e]
  show (if n_h = s then some (1 : Int) else if n_r1 = s then some (-1) else none).getD 0 = _
  unfold uhN
  by_cases h1 : n_h = s
  · subst h1; decide +kernel
  · by_cases h2 : n_r1 = s
    · subst h2; decide +kernel
    · have h3 : ¬ s = n_h := fun h => h1 h.symm
      have h4 : ¬ s = n_r1 := fun h => h2 h.symm
      rw [if_neg h1, if_neg h2, if_neg h3, if_neg h4]; rfl
def msF (N : List In) (i a : Nat) : In := if a < i then msI (lF dIn N a) else lF dIn N a
theorem ms0 {τ : Nat → Option Nat} {N : List In} {r : Row} {u : Nat → Nat → PV} (hl : N.length = 8) (hr : r = ⟨.own, false, 0 + N.length, 3, appF 0 u (tF cIn (lF dIn N))⟩) : RowEq (Row.ren τ r) (oRow cIn 3 8 (msF N 0)) := by
  subst hr
  refine o_eq cIn_cl (by omega) fun a ha b hb => ?_
  rw [appF_ge _ _ (Nat.zero_le _), Nat.sub_zero]
  unfold msF; rw [if_neg (Nat.not_lt_zero _)]; rfl
theorem msq {τ : Nat → Option Nat} {N : List In} {i j : Nat} {r : Row} {a b : Int} (hj : j = i) (ha : a = (msI (lF dIn N i)).n) (hb : b = (msI (lF dIn N i)).d) (hr : r = ⟨.own, false, 8, 3, updR (tF cIn (msF N i)) j [vs (msF N i j).nm, vi a, vi b]⟩) : RowEq (Row.ren τ r) (oRow cIn 3 8 (msF N (i + 1))) := by
  subst hr ha hb hj
  refine o_eq cIn_cl (Nat.le_refl _) fun a ha b hb => ?_
  unfold updR
  cases h : Nat.beq a j
  · have h0 := Nat.ne_of_beq_eq_false h
    show nthP (cIn (msF N j a)) b = nthP (cIn (msF N (j + 1) a)) b
    have e : msF N (j + 1) a = msF N j a := by
      unfold msF
      by_cases h1 : a < j
      · rw [if_pos h1, if_pos (by omega)]
      · rw [if_neg h1, if_neg (by omega)]
    rw [e]
  · obtain rfl := Nat.eq_of_beq_eq_true h
    have e1 : msF N a a = lF dIn N a := by unfold msF; rw [if_neg (Nat.lt_irrefl _)]
    have e2 : msF N (a + 1) a = msI (lF dIn N a) := by unfold msF; rw [if_pos (Nat.lt_succ_self _)]
    rw [e1, e2]
    rcases (by omega : b = 0 ∨ b = 1 ∨ b = 2) with rfl | rfl | rfl <;> rfl
abbrev cDl (d : Df) (p : PV) : List PV := [vi d.kind, vs d.nm, vb d.ty.b, vi d.ty.m, vi d.ty.h, vi d.ty.d, vi d.day, p, vi d.body.op, vi d.body.vn, vi d.body.vd, vi d.body.um, vi d.body.uh, vi d.body.ud, vs d.body.nm, vi d.body.cnt, vi d.body.mode, .vsl d.body.nk 10 d.body.kc, vi d.mode, vi d.sn, vi d.sd]
abbrev rU (d0 d1 : Df) (l k : Nat) : Row := ⟨.own, false, 2, 21, updR (fun a b => nthP (cD d0 ++ cD d1) (a * 21 + b)) 0 (cDl d0 (.lsl l 0 k))⟩
theorem rU_eq {τ : Nat → Option Nat} {d0 d1 : Df} {l l' k k' : Nat} {r : Row} (h : τ l = some l') (hk : k' = k) (hr : r = rU d0 d1 l k') : RowEq (Row.ren τ r) (rU d0 d1 l' k) := by
  subst hk hr
  refine ⟨rfl, rfl, Nat.le_refl _, fun i hi j hj => ?_⟩
  have hi : i < 2 := hi
  have hj : j < 21 := hj
  rcases (by omega : i = 0 ∨ i = 1) with rfl | rfl
  · rcases (by omega : j = 7 ∨ j ≠ 7) with rfl | hj7
    · show PEq (match τ l with | some l' => PV.lsl l' 0 k' | none => .junk) (.lsl l' 0 k')
      rw [h]; exact PEq.refl _
    · rcases (by omega : j = 0 ∨ j = 1 ∨ j = 2 ∨ j = 3 ∨ j = 4 ∨ j = 5 ∨ j = 6 ∨ j = 8 ∨ j = 9 ∨ j = 10 ∨ j = 11 ∨ j = 12 ∨ j = 13 ∨ j = 14 ∨ j = 15 ∨ j = 16 ∨ j = 17 ∨ j = 18 ∨ j = 19 ∨ j = 20) with rfl | rfl | rfl | rfl | rfl | rfl | rfl | rfl | rfl | rfl | rfl | rfl | rfl | rfl | rfl | rfl | rfl | rfl | rfl | rfl <;> exact PEq.refl _
  · exact PEq.cl _ (clL_nth _ (1 * 21 + j) (clL_app (cD_cl d0) (cD_cl d1)))
def mnF (ef : Nat → En) (i a : Nat) : En := if a < i then msE (ef a) else ef a
theorem mn0 {τ : Nat → Option Nat} {ef : Nat → En} {k : Nat} {r : Row} {u : Nat → Nat → PV} (hr : r = ⟨.own, false, 0 + k, 3, appF 0 u (tF cN3 ef)⟩) : RowEq (Row.ren τ r) (oRow cN3 3 k (mnF ef 0)) := by
  subst hr
  refine o_eq cN3_cl (by omega) fun a ha b hb => ?_
  rw [appF_ge _ _ (Nat.zero_le _), Nat.sub_zero]
  unfold mnF; rw [if_neg (Nat.not_lt_zero _)]; rfl
theorem mnq {τ : Nat → Option Nat} {ef : Nat → En} {i j k : Nat} {r : Row} (hj : j = i) (hr : r = ⟨.own, false, k, 3, updR (tF cN3 (mnF ef i)) j [vi (mnF ef i j).1, vi (scS (ef i).2 (-1)).1, vi (scS (ef i).2 (-1)).2]⟩) : RowEq (Row.ren τ r) (oRow cN3 3 k (mnF ef (i + 1))) := by
  subst hr hj
  refine o_eq cN3_cl (Nat.le_refl _) fun a ha b hb => ?_
  unfold updR
  cases h : Nat.beq a j
  · have h0 := Nat.ne_of_beq_eq_false h
    show nthP (cN3 (mnF ef j a)) b = nthP (cN3 (mnF ef (j + 1) a)) b
    have e : mnF ef (j + 1) a = mnF ef j a := by
      unfold mnF
      by_cases h1 : a < j
      · rw [if_pos h1, if_pos (by omega)]
      · rw [if_neg h1, if_neg (by omega)]
    rw [e]
  · obtain rfl := Nat.eq_of_beq_eq_true h
    have e1 : mnF ef a a = ef a := by unfold mnF; rw [if_neg (Nat.lt_irrefl _)]
    have e2 : mnF ef (a + 1) a = msE (ef a) := by unfold mnF; rw [if_pos (Nat.lt_succ_self _)]
    rw [e1, e2]
    rcases (by omega : b = 0 ∨ b = 1 ∨ b = 2) with rfl | rfl | rfl <;> rfl
abbrev PPx (x0 x1 x2 x3 x4 x5 : Int × Int) : List Pa := [⟨n_gross, 3, lF (0, 0) [x0, x1, x2]⟩, ⟨n_time, 3, lF (0, 0) [x3, x4, x5]⟩]
abbrev TL7 (P : List Pa) (F : RE) (i : Nat) : List (Nat × PV) := [(4, .ptr 0 0 0), (5, .ptr 1 0 0), (8, vPas P), (12, .ptr 2 0 0), (13, vi F.2), (14, .lsl 3 0 8), (16, .lsl 4 0 2), (18, .lsl 6 0 2), (19, vi i)]
abbrev RL7 (t : Ty) (e : Ex) (F : RE) (N8 : List In) (d0 d1 : Df) (l : List Row) : List Row := rTy t :: rXE e :: rRm F.1.1 F.1.2 :: oRow cIn 3 8 (msF N8 8) :: rU d0 d1 5 d0.ne :: oRow cN3 3 d0.ne (mnF d0.ef d0.ne) :: l
abbrev rQ0 (x0 x1 x2 : Int × Int) : Row := ⟨.own, false, 2, 2, fun a b => nthP [vs n_gross, .vsl 3 2 (tF cPr (lF (0, 0) [x0, x1, x2])), vs n_time, .val (.slice none 0 0)] (a * 2 + b)⟩
theorem rQ0_cl (x0 x1 x2 : Int × Int) : rowCl (rQ0 x0 x1 x2) := fun i _ j _ => clL_nth _ _ ⟨trivial, trivial, trivial, trivial, trivial⟩
abbrev rQ (x0 x1 x2 : Int × Int) (p : PV) : Row := ⟨.own, false, 2, 2, updR (fun a b => nthP [vs n_gross, .vsl 3 2 (tF cPr (lF (0, 0) [x0, x1, x2])), vs n_time, .val (.slice none 0 0)] (a * 2 + b)) 1 [vs n_time, p]⟩
theorem rQ_eq {τ : Nat → Option Nat} {x0 x1 x2 : Int × Int} {g : Nat → Nat → PV} {l l' k k' : Nat} {r : Row} (h : τ l = some l') (hk : k' = k) (hg : g 0 = fun b => nthP [vs n_gross, .vsl 3 2 (tF cPr (lF (0, 0) [x0, x1, x2])), vs n_time, .val (.slice none 0 0)] (0 * 2 + b)) (hr : r = ⟨.own, false, 2, 2, updR g 1 [vs n_time, .lsl l 0 k']⟩) : RowEq (Row.ren τ r) (rQ x0 x1 x2 (.lsl l' 0 k)) := by
  subst hk hr
  refine ⟨rfl, rfl, Nat.le_refl _, fun i hi j hj => ?_⟩
  have hi : i < 2 := hi
  have hj : j < 2 := hj
  rcases (by omega : i = 0 ∨ i = 1) with rfl | rfl
  · show PEq ((g 0 j).ren τ) _
    rw [hg]
    rcases (by omega : j = 0 ∨ j = 1) with rfl | rfl <;> exact PEq.refl _
  · rcases (by omega : j = 0 ∨ j = 1) with rfl | rfl
    · exact PEq.refl _
    · show PEq (match τ l with | some l' => PV.lsl l' 0 k' | none => .junk) (.lsl l' 0 k')
      rw [h]; exact PEq.refl _
abbrev PPy (x0 x1 x2 x3 x4 x5 : Int × Int) : List Pa := [⟨n_gross, 3, lF (0, 0) [x0, x1, x2]⟩, ⟨n_time, 3, fun i => scS (lF (0, 0) [x3, x4, x5] i) 1⟩]
theorem mea_bd : ∀ (n : Nat) (e : Ex), Bd e → Lit e → validS n e = true → Bd (meaS n e)
  | 0, e, h, _, _ => h
  | n + 1, .nil, _, hl, _ => by cases hl
  | n + 1, .mk op vn vd um uh ud nm cnt mode nk kf, hb, hl, hv => by
    have hu := unit_of (validS_f hv)
    have key : -9223372036854775808 ≤ (if op = 1 ∨ op = 19 then (scS (vn, vd) uh).1 else vn) ∧ (if op = 1 ∨ op = 19 then (scS (vn, vd) uh).1 else vn) ≤ 9223372036854775807 := by
      by_cases hc : op = 1 ∨ op = 19
      · rw [if_pos hc]
        have := okR_bd (lit_at (hl.l hc) (hu hc).1 (hu hc).2).2.1
        replace this : 1 ≤ (scS (vn, vd) uh).2 ∧ (scS (vn, vd) uh).2 ≤ 1000000 ∧ -1000000000000 ≤ (scS (vn, vd) uh).1 ∧ (scS (vn, vd) uh).1 ≤ 1000000000000 := this
        omega
      · rw [if_neg hc]; exact hb.v
    exact .mk ⟨key.1, key.2, hb.s⟩ fun i hi => mea_bd n _ (hb.k hi) (hl.k hi) (validS_k hv hi)
theorem argM {mem : List Row} {L : List Nat} {r : Nat} {N : List In} (hl : N.length = 8) (hr : rowAt mem r = some (oRow cIn 3 8 (msF N 8))) (hL : r ∈ L) : ArgOk mem L (.lsl r 0 8) (vIns (N.map msI)) :=
  argIn (f := tF cIn (msF N 8)) hr (by rw [List.length_map, hl]) (Nat.le_refl _) hL fun a ha b hb => by
    have e : lF dIn (N.map msI) a = msF N 8 a := by
      unfold msF; rw [if_pos ha]
      unfold lF; rw [List.getD_eq_getElem?_getD, List.getD_eq_getElem?_getD, List.getElem?_map, List.getElem?_eq_getElem (by omega)]; rfl
    rw [e]; rfl
theorem argU {mem : List Row} {L : List Nat} {r l : Nat} {d0 d1 : Df} {ne : Nat} {ef : Nat → En} {nm : ByteArray} {ty : Ty} {day : Int} (hde : d0 = ⟨2, nm, ty, day, ne, ef, .nil, 0, 0, 0⟩) (hr : rowAt mem r = some (rU d0 d1 l d0.ne)) (hl : rowAt mem l = some (oRow cN3 3 d0.ne (mnF d0.ef d0.ne))) (hL : r ∈ L) (hL2 : l ∈ L) : ArgOk mem L (.lsl r 0 2) (vDs [msD d0, d1]) := by
  subst hde
  refine argLsl' (r := rU _ d1 l _) hr trivial hL (Nat.le_refl _) fun a ha b hb => ?_
  have hb : b < 21 := hb
  have ha : a < 2 := ha
  rcases (by omega : a = 0 ∨ a = 1) with rfl | rfl
  · rcases (by omega : b = 7 ∨ b ≠ 7) with rfl | h7
    · refine argLsl (r := oRow cN3 3 ne (mnF ef ne)) hl trivial hL2 (by rw [Nat.zero_add]; exact Nat.le_refl _) fun a ha b hb => ⟨?_, tF_cl cN3_cl (fun i => msE (ef i)) a b⟩
      show nthP (cN3 (mnF ef ne (0 + a))) b = _
      rw [Nat.zero_add]; unfold mnF; rw [if_pos ha]; rfl
    · rcases (by omega : b = 0 ∨ b = 1 ∨ b = 2 ∨ b = 3 ∨ b = 4 ∨ b = 5 ∨ b = 6 ∨ b = 8 ∨ b = 9 ∨ b = 10 ∨ b = 11 ∨ b = 12 ∨ b = 13 ∨ b = 14 ∨ b = 15 ∨ b = 16 ∨ b = 17 ∨ b = 18 ∨ b = 19 ∨ b = 20) with rfl | rfl | rfl | rfl | rfl | rfl | rfl | rfl | rfl | rfl | rfl | rfl | rfl | rfl | rfl | rfl | rfl | rfl | rfl | rfl <;> first | exact argVal | exact argVsl
  · have e : (rU ⟨2, nm, ty, day, ne, ef, .nil, 0, 0, 0⟩ d1 l ne).f (0 + 1) b = nthP (cD d1) b := by
      show nthP (cD _ ++ cD d1) (1 * 21 + b) = _
      exact nth_app2 (l := cD ⟨2, nm, ty, day, ne, ef, .nil, 0, 0, 0⟩)
    rw [e]
    exact argCl (clL_nth _ b (cD_cl d1))
theorem argQ {mem : List Row} {L : List Nat} {r l : Nat} {x0 x1 x2 x3 x4 x5 : Int × Int} (hr : rowAt mem r = some (rQ x0 x1 x2 (.lsl l 0 3))) (hl : rowAt mem l = some (oRow cPr 2 3 (fun a => scS (lF (0, 0) [x3, x4, x5] a) 1))) (hL : r ∈ L) (hL2 : l ∈ L) : ArgOk mem L (.lsl r 0 2) (vPas (PPy x0 x1 x2 x3 x4 x5)) :=
  argLsl' (r := rQ x0 x1 x2 (.lsl l 0 3)) hr trivial hL (Nat.le_refl _) fun i hi j hj => by
    have hj : j < 2 := hj
    have hi : i < 2 := hi
    rcases (by omega : i = 0 ∨ i = 1) with rfl | rfl <;> rcases (by omega : j = 0 ∨ j = 1) with rfl | rfl
    · exact argVal
    · exact argVsl
    · exact argVal
    · exact arg_o (s := .own) cPr_cl2 hl trivial hL2
theorem nbl {a b : Nat} (h : Nat.ble a b = true := by exact rfl) : a ≤ b := Nat.le_of_ble_eq_true h
theorem bB {G : Pg2} {N : Nat} {Γ : Fr} {st st1 : PSt} {K : Exit → PSt → Prop} {ops : Array Oper} {H : List Nat} {ni : Bool} {m : Nat} {ls : Array Bool} (n : Nat) (L : List Nat) (T : List (Nat × Sched × Bool × Nat)) (h : BrAll G N Γ ops H ni L n st1 K T) (hf : fSt st = some st1 := by exact rfl) (hls : (ls == lsF L n) = true := by decide +kernel) (hok : brOk ops (lsF L n) m T = true := by kernel_rfl) (hH : inB st1.mem.length H = true := by kernel_rfl) : PS G N Γ ops H ni false [] (m + 1) ls st K := xs_brT (n := n) L T hls hf hok hH h
abbrev TL4 (P : List Pa) (F : RE) (i : Nat) : List (Nat × PV) := [(4, .ptr 0 0 0), (5, .ptr 1 0 0), (8, vPas P), (12, .ptr 2 0 0), (13, vi F.2), (14, .lsl 3 0 8), (16, .lsl 4 0 2), (17, vi i)]
abbrev TL8 (S : List Df) (P : List Pa) (F : RE) (i : Nat) : List (Nat × PV) := [(4, .ptr 0 0 0), (5, .ptr 1 0 0), (7, vDs S), (8, vPas P), (9, .mref 2), (12, .ptr 3 0 0), (13, vi F.2), (14, .lsl 4 0 8), (15, vi i)]
abbrev nms6 : List ByteArray := [n_h, n_g, n_r1, n_r2, n_r4, n_a]
abbrev TL6 (S : List Df) (P : List Pa) (i : Nat) : List (Nat × PV) := [(3, .ptr 0 0 0), (4, .ptr 1 0 0), (5, .ptr 2 0 0), (6, .lsl 3 0 i), (7, vDs S), (8, vPas P), (9, .mref 4), (59, .lsl 5 0 6), (60, vi ((6 : Nat) : Int)), (61, vi i)]
set_option maxHeartbeats 8000000 in
theorem dims_c (n : Nat) (g : Nat → Int) (hn : n ≤ 9223372036854775807) : PureC G.P 7 [.vsl n 1 (tI g)] (fun r => r = vb true) := by
  have cs := sane22_c
  refine pure_of (G := G.toPg) (fn := Tryd.f7) Tryd.func7 rfl rfl rfl ?_; intro Γ hk
  repeat' (first | refine yo ?_ ?_ | refine yw ?_ ?_ | refine yk ?_ ?_ | exact trivial | with_reducible refine wA ?_ ?_ | refine ys ?_ ?_ | refine xs_done ?_ | refine yl ?_ ?_ | refine w8 ?_ | refine w9 ?_ | refine w1 ?_ | refine w2 ?_ | refine w3 ?_ | refine w4 ?_ | refine w5 ?_ | refine w6 ?_ | refine w7 ?_ | refine yo0 ?_ ?_ | refine yw0 ?_ ?_ | exact qq | fail)
  refine pop_rowsc [] rfl rfl rfl rfl rfl rfl .nil (new_c n g) (by exact ⟨PEq.refl _, trivial⟩) ?_
  rintro r rows ⟨rfl, rfl⟩
  refine ⟨_, _, rfl, ⟨tape_cl _ _ _, trivial⟩, rfl, ?_⟩
  have b1 : (0 : Int) ≤ 0 := Int.le_refl 0
  have b2 : (0 : Int) ≤ n := by omega
  repeat' (first | refine yo ?_ ?_ | refine yw ?_ ?_ | refine yk ?_ ?_ | exact trivial | with_reducible refine wA ?_ ?_ | refine ys ?_ ?_ | refine xs_done ?_ | refine yl ?_ ?_ | (refine t1 type_t hn ?_; rintro at_ _ b1 b2 ⟨t, rfl, ht⟩) | (refine t2 type_t hn ?_; rintro at_ _ b1 b2 ⟨t, rfl, ht⟩) | (refine t3 type_t hn ?_; rintro at_ _ b1 b2 ⟨t, rfl, ht⟩) | refine w8 ?_ | refine w9 ?_ | refine w1 ?_ | refine w2 ?_ | refine w3 ?_ | refine w4 ?_ | refine w5 ?_ | refine w6 ?_ | refine w7 ?_ | refine yo0 ?_ ?_ | refine yw0 ?_ ?_ | exact qq | fail)
  have ht5 : t ∈ tys5 := by rcases ht with rfl | rfl | rfl | rfl | rfl <;> simp [tys5]
  have hth : t.h = 0 ∨ t.h = 1 ∨ t.h = -1 := by rcases ht with rfl | rfl | rfl | rfl | rfl <;> decide
  clear ht
  repeat' (first | refine yo ?_ ?_ | refine yw ?_ ?_ | refine yk ?_ ?_ | exact trivial | with_reducible refine wA ?_ ?_ | refine ys ?_ ?_ | refine xs_done ?_ | refine yl ?_ ?_ | refine xs_start (id := 17) true [.take 0, .take 1, .take 2, .take 3, .take 4, .take 5, .take 7, .take 8, .take 9, .take 10, .take 11, .two 6 12, .one 13, .one 14, .take 15, .take 16, .one 17] 0 rfl rfl (by kernel_rfl) ?_ | refine xs_start (id := 18) true [.take 0, .take 1, .take 2, .take 3, .take 4, .take 5, .one 6, .take 7] 0 rfl rfl (by kernel_rfl) ?_ | refine xs_start (id := 23) true [.take 0, .take 1, .take 2, .take 3, .take 4, .take 5, .take 6, .take 7, .take 8, .take 9, .take 10, .take 11, .one 12, .one 13, .take 14, .take 15, .one 16] 0 rfl rfl (by kernel_rfl) ?_ | refine xs_start (id := 28) false [.take 0, .take 1, .take 2, .take 3, .take 5, .take 6, .take 7, .take 8, .take 9, .take 10, .take 11, .take 12] 6 rfl rfl (by kernel_rfl) ?_ | refine xs_start (id := 34) true [.take 0, .take 1, .take 2, .take 3, .take 4, .take 5, .take 6, .take 7, .one 8, .take 9, .take 10, .take 11, .one 12, .take 13, .take 14] 0 rfl rfl (by kernel_rfl) ?_ | (refine t1 ((expr_t 3 (by omega) t ht5 5)) hn ?_; rintro at_ _ b1 b2 ⟨e, rfl, he⟩) | (refine t2 ((expr_t 3 (by omega) t ht5 5)) hn ?_; rintro at_ _ b1 b2 ⟨e, rfl, he⟩) | (refine t3 ((expr_t 3 (by omega) t ht5 5)) hn ?_; rintro at_ _ b1 b2 ⟨e, rfl, he⟩) | refine w8 ?_ | refine w9 ?_ | refine w1 ?_ | refine w2 ?_ | refine w3 ?_ | refine w4 ?_ | refine w5 ?_ | refine w6 ?_ | refine w7 ?_ | refine yo0 ?_ ?_ | refine yw0 ?_ ?_ | exact qq | fail)
  refine xs_startH (id := 4) [] false [.take 0, .take 3, .take 4, .take 5, .take 7, .take 8, .take 11, .take 13, .take 15, .take 19, .take 21, .take 23] 19 rfl (by kernel_rfl) ?_
  repeat' (first | refine xs rfl ?_ ?_ | exact trivial | ((with_reducible (show AllP (_ :: _))); refine And.intro ?_ ?_) | exact qq | fail)
  refine pd [0, 1, 2] (r4_all n g hn Γ hk t e _ ?_ 13 0 false false false false (Nat.le_refl _) rfl at_ 0 [] dD dD (0, 0) (0, 0) (0, 0) (0, 0) (0, 0) (0, 0) b1 b2 ⟨nb, nb, nb, nb, nb, nb, nb, nb⟩)
  intro at2 kk N0 d0 d1 x0 x1 x2 x3 x4 x5 c1 c2 hv st hcan
  refine kseq_normal (pcan hcan ?_)
  clear hcan st
  obtain ⟨PP, hPP⟩ : ∃ PP : List Pa, PP = [⟨n_gross, 3, lF (0, 0) [x0, x1, x2]⟩, ⟨n_time, 3, lF (0, 0) [x3, x4, x5]⟩] := ⟨_, rfl⟩
  refine pcan ((can_frz [7, 6, 4, 5] (by intro l hl; rw [show Γ.k0 = 0 from hk]; exact Nat.zero_le _) rfl (tm := [(3, .ptr 0 0 0), (4, .ptr 1 0 0), (5, .ptr 2 0 0), (6, .lsl 3 0 0), (7, vDs [d0, d1]), (8, vPas PP)]) (by exact ⟨.inl rfl, .inl rfl, .inl rfl, .inl rfl, .inr (argD2 rfl (List.Mem.head _)), .inr (hPP ▸ argP2 rfl rfl rfl (by simp) (by simp) (by simp)), trivial⟩)).trans (can_rowsv [0, 1, 2, 3] (rows := [tapeRow n g at2, rTy t, rXE e, oRow cIn 3 (kk + 1) (lF dIn N0)]) (tm := [(3, .ptr 0 0 0), (4, .ptr 1 0 0), (5, .ptr 2 0 0), (6, .lsl 3 0 0), (7, vDs [d0, d1]), (8, vPas PP)]) (k0_sel hk rfl) rfl (.cons rfl (RowEq.cl (tape_cl _ _ _)) (.cons rfl (RowEq.cl (rTy_cl t)) (.cons rfl (RowEq.cl (rXE_cl e)) (.cons rfl (RowEq.cl (o_cl cIn_cl _ _ _)) .nil)))) tmq)) ?_
  repeat' (first | refine yo ?_ ?_ | refine yw ?_ ?_ | refine yk ?_ ?_ | exact trivial | with_reducible refine wA ?_ ?_ | refine ys ?_ ?_ | refine xs_done ?_ | refine yl ?_ ?_ | refine w8 ?_ | refine w9 ?_ | refine w1 ?_ | refine w2 ?_ | refine w3 ?_ | refine w4 ?_ | refine w5 ?_ | refine w6 ?_ | refine w7 ?_ | refine yo0 ?_ ?_ | refine yw0 ?_ ?_ | exact qq | fail)
  refine pop_mkmap kS rfl rfl rfl rfl rfl ?_
  repeat' (first | refine yo ?_ ?_ | refine yw ?_ ?_ | refine yk ?_ ?_ | exact trivial | with_reducible refine wA ?_ ?_ | refine ys ?_ ?_ | refine xs_done ?_ | refine yl ?_ ?_ | refine w8 ?_ | refine w9 ?_ | refine w1 ?_ | refine w2 ?_ | refine w3 ?_ | refine w4 ?_ | refine w5 ?_ | refine w6 ?_ | refine w7 ?_ | refine yo0 ?_ ?_ | refine yw0 ?_ ?_ | exact qq | fail)
  refine pop_mins mapSI n_h 1 rfl rfl rfl rfl rfl rfl rfl (by rw [hk]; exact Nat.zero_le _) rfl rfl ?_
  repeat' (first | refine yo ?_ ?_ | refine yw ?_ ?_ | refine yk ?_ ?_ | exact trivial | with_reducible refine wA ?_ ?_ | refine ys ?_ ?_ | refine xs_done ?_ | refine yl ?_ ?_ | refine w8 ?_ | refine w9 ?_ | refine w1 ?_ | refine w2 ?_ | refine w3 ?_ | refine w4 ?_ | refine w5 ?_ | refine w6 ?_ | refine w7 ?_ | refine yo0 ?_ ?_ | refine yw0 ?_ ?_ | exact qq | fail)
  refine pop_mins mapSI n_r1 (-1) rfl rfl rfl rfl rfl rfl rfl (by rw [hk]; exact Nat.zero_le _) rfl rfl ?_
  repeat' (first | refine yo ?_ ?_ | refine yw ?_ ?_ | refine yk ?_ ?_ | exact trivial | with_reducible refine wA ?_ ?_ | refine ys ?_ ?_ | refine xs_done ?_ | refine yl ?_ ?_ | refine w8 ?_ | refine w9 ?_ | refine w1 ?_ | refine w2 ?_ | refine w3 ?_ | refine w4 ?_ | refine w5 ?_ | refine w6 ?_ | refine w7 ?_ | refine yo0 ?_ ?_ | refine yw0 ?_ ?_ | exact qq | fail)
  refine pcan (st' := ⟨TL6 [d0, d1] PP 0, [tapeRow n g at2, rTy t, rXE e, oRow cIn 3 0 (lF dIn []), mRow kS M2, oRow cSt 1 6 (lF ⟨#[]⟩ nms6)]⟩) (can_rowsv [0, 1, 2, 3, 4, 5] (k0_sel hk rfl) rfl (.cons rfl (RowEq.cl (tape_cl _ _ _)) (.cons rfl (RowEq.cl (rTy_cl t)) (.cons rfl (RowEq.cl (rXE_cl e)) (.cons rfl (o_eq cIn_cl (Nat.zero_le _) fun a ha => absurd ha (Nat.not_lt_zero a)) (.cons rfl m_eq (.cons rfl (o_eq cSt_cl (Nat.le_refl _) (fun a ha b hb => by
    have hb : b < 1 := hb
    obtain rfl : b = 0 := by omega
    rcases (by omega : a = 0 ∨ a = 1 ∨ a = 2 ∨ a = 3 ∨ a = 4 ∨ a = 5) with rfl | rfl | rfl | rfl | rfl | rfl <;> rfl)) .nil)))))) tmq) ?_
  refine ploop (fun q st => ∃ (at' : Int) (i : Nat) (N : List In), 0 ≤ at' ∧ at' ≤ n ∧ i ≤ 6 ∧ q = 6 - i ∧ N.length = i ∧ N.map In.nm = nms6.take i ∧ (∀ x, x ∈ N → (x.n, x.d) ∈ decL) ∧ st = ⟨TL6 [d0, d1] PP i, [tapeRow n g at', rTy t, rXE e, oRow cIn 3 i (lF dIn N), mRow kS M2, oRow cSt 1 6 (lF ⟨#[]⟩ nms6)]⟩) 6 ⟨at2, 0, [], c1, c2, by omega, rfl, rfl, rfl, by simp, rfl⟩ ?_
  clear c1 c2 N0 kk
  rintro _ _ ⟨at', i, N, b1, b2, hi, rfl, hNl, hNm, hNd, rfl⟩
  have hwi : IntKind.i64.wrap ((i : Int) + 1) = ((i + 1 : Nat) : Int) := w64 (by omega) (by omega)
  repeat' (first | refine yo ?_ ?_ | refine yw ?_ ?_ | refine yk ?_ ?_ | exact trivial | with_reducible refine wA ?_ ?_ | refine ys ?_ ?_ | refine xs_done ?_ | refine yl ?_ ?_ | refine w8 ?_ | refine w9 ?_ | refine w1 ?_ | refine w2 ?_ | refine w3 ?_ | refine w4 ?_ | refine w5 ?_ | refine w6 ?_ | refine w7 ?_ | refine yo0 ?_ ?_ | refine yw0 ?_ ?_ | exact qq | fail)
  refine pcond rfl ?_ ?_ <;> intro hc <;> simp at hc
  · repeat' (first | refine yo ?_ ?_ | refine yw ?_ ?_ | refine yk ?_ ?_ | exact trivial | with_reducible refine wA ?_ ?_ | refine ys ?_ ?_ | refine xs_done ?_ | refine yl ?_ ?_ | exact ⟨Nat.le_refl _, (by rw [hk]; exact Nat.le_of_ble_eq_true rfl), Nat.le_of_eq (Nat.zero_add _), (show (_ : Nat) * 32 ≤ 140737488355328 from by omega), (show (_ : Nat) ≤ 9223372036854775807 from by omega)⟩ | (refine t1 decimal_t hn ?_; rintro at_ _ b1 b2 ⟨⟨a, b⟩, rfl, hx⟩) | (refine t2 decimal_t hn ?_; rintro at_ _ b1 b2 ⟨⟨a, b⟩, rfl, hx⟩) | (refine t3 decimal_t hn ?_; rintro at_ _ b1 b2 ⟨⟨a, b⟩, rfl, hx⟩) | refine w8 ?_ | refine w9 ?_ | refine w1 ?_ | refine w2 ?_ | refine w3 ?_ | refine w4 ?_ | refine w5 ?_ | refine w6 ?_ | refine w7 ?_ | refine yo0 ?_ ?_ | refine yw0 ?_ ?_ | exact qq | fail)
    rw [hwi]
    exact kloop_next (st' := ⟨TL6 [d0, d1] PP (i + 1), [tapeRow n g _, rTy t, rXE e, oRow cIn 3 (i + 1) (lF dIn (N ++ [⟨lF ⟨#[]⟩ nms6 (0 + (i : Int).toNat), a, b⟩])), mRow kS M2, oRow cSt 1 6 (lF ⟨#[]⟩ nms6)]⟩) (6 - (i + 1)) (can_rowsv [0, 1, 2, 7, 4, 5] (k0_sel hk rfl) rfl (.cons rfl (RowEq.cl (tape_cl _ _ _)) (.cons rfl (RowEq.cl (rTy_cl t)) (.cons rfl (RowEq.cl (rXE_cl e)) (.cons rfl (app_l cIn_cl hNl rfl rfl) (.cons rfl m_eq (.cons rfl (RowEq.cl (o_cl cSt_cl _ _ _)) .nil)))))) tmq) (by omega) ⟨_, i + 1, _, b1, b2, by omega, rfl, by rw [List.length_append, hNl]; rfl, by
      rw [List.map_append, hNm, take_snoc (d := ⟨#[]⟩) (show i < nms6.length by show i < 6; omega), show 0 + (i : Int).toNat = i by omega]; rfl, fun x hx' => by
      rcases List.mem_append.1 hx' with h | h
      · exact hNd x h
      · obtain rfl : x = _ := by simpa using h
        exact hx, rfl⟩
  · obtain rfl : i = 6 := by omega
    repeat' (first | refine yo ?_ ?_ | refine yw ?_ ?_ | refine yk ?_ ?_ | exact trivial | with_reducible refine wA ?_ ?_ | refine ys ?_ ?_ | refine xs_done ?_ | refine yl ?_ ?_ | exact ⟨Nat.le_refl _, (by rw [hk]; exact Nat.le_of_ble_eq_true rfl), Nat.le_of_eq (Nat.zero_add _), (show (_ : Nat) * 32 ≤ 140737488355328 from by omega), (show (_ : Nat) ≤ 9223372036854775807 from by omega)⟩ | (refine tn1 hn ?_; rintro at_ b1 b2 x hx1 hx2) | refine w8 ?_ | refine w9 ?_ | refine w1 ?_ | refine w2 ?_ | refine w3 ?_ | refine w4 ?_ | refine w5 ?_ | refine w6 ?_ | refine w7 ?_ | refine yo0 ?_ ?_ | refine yw0 ?_ ?_ | exact qq | fail)
    rename_i zf hz1 hz1'
    obtain ⟨zr, hz2e⟩ : ∃ zr, zr = x := ⟨_, rfl⟩
    subst hz2e
    have hz2 := hx1
    have hz2' := hx2
    obtain ⟨y0, y1, y2, y3, y4, y5, rfl⟩ : ∃ y0 y1 y2 y3 y4 y5, N = [y0, y1, y2, y3, y4, y5] := by
      match N, hNl with
      | [y0, y1, y2, y3, y4, y5], _ => exact ⟨_, _, _, _, _, _, rfl⟩
    have hI : InsD [y0, y1, y2, y3, y4, y5, ⟨n_f, zf, 1⟩, ⟨n_r3, zr, 1⟩] := by
      have e1 : ∀ z : Int, 0 ≤ z → (z < 2 ∨ z = 0) → (z, (1 : Int)) ∈ decL := fun z h1 h2 => by
        rcases (by omega : z = 0 ∨ z = 1) with rfl | rfl <;> decide
      refine ⟨?_, fun x hx => ?_⟩
      · have : [y0.nm, y1.nm, y2.nm, y3.nm, y4.nm, y5.nm] = nms6 := hNm
        simp only [List.cons.injEq, and_true] at this
        obtain ⟨a1, a2, a3, a4, a5, a6⟩ := this
        simp only [List.map_cons, List.map_nil, a1, a2, a3, a4, a5, a6]
      · rcases List.mem_append.1 (show x ∈ [y0, y1, y2, y3, y4, y5] ++ [⟨n_f, zf, 1⟩, ⟨n_r3, zr, 1⟩] from hx) with h | h
        · exact hNd x h
        · simp only [List.mem_cons, List.not_mem_nil, or_false] at h
          rcases h with rfl | rfl
          · exact e1 _ hz1 hz1'
          · exact e1 _ hz2 hz2'
    show POps _ _ _ _ (_ :: _) _ _
    refine ocanD (st' := ⟨[(4, .ptr 1 0 0), (5, .ptr 2 0 0), (6, vIns [y0, y1, y2, y3, y4, y5, ⟨n_f, zf, 1⟩, ⟨n_r3, zr, 1⟩]), (7, vDs [d0, d1]), (8, vPas PP), (9, .mref 3), (85, vX e), (86, vIns [y0, y1, y2, y3, y4, y5, ⟨n_f, zf, 1⟩, ⟨n_r3, zr, 1⟩]), (87, vDs [d0, d1]), (88, vPas PP)], [tapeRow n g at_, rTy t, rXE e, mRow kS M2]⟩) ((can_frz [7] (by intro l hl; rw [show Γ.k0 = 0 from hk]; exact Nat.zero_le _) rfl (tm := [(4, .ptr 1 0 0), (5, .ptr 2 0 0), (6, vIns [y0, y1, y2, y3, y4, y5, ⟨n_f, zf, 1⟩, ⟨n_r3, zr, 1⟩]), (7, vDs [d0, d1]), (8, vPas PP), (9, .mref 4), (85, vX e), (86, vIns [y0, y1, y2, y3, y4, y5, ⟨n_f, zf, 1⟩, ⟨n_r3, zr, 1⟩]), (87, vDs [d0, d1]), (88, vPas PP)]) (by exact ⟨.inl rfl, .inl rfl, .inr (arg8 rfl (List.Mem.head _)), .inl rfl, .inl rfl, .inl rfl, .inl rfl, .inr (arg8 rfl (List.Mem.head _)), .inl rfl, .inl rfl, trivial⟩)).trans (can_rowsv [0, 1, 2, 4] (k0_sel hk rfl) rfl (.cons rfl (RowEq.cl (tape_cl _ _ _)) (.cons rfl (RowEq.cl (rTy_cl t)) (.cons rfl (RowEq.cl (rXE_cl e)) (.cons rfl m_eq .nil)))) (by exact ⟨PEq.refl _, PEq.refl _, PEq.refl _, PEq.refl _, PEq.refl _, PEq.refl _, PEq.cl _ (clB_spec _ rfl), PEq.refl _, PEq.refl _, PEq.refl _, trivial⟩))) ?_
    have hD8 := hI
    generalize hN8 : [y0, y1, y2, y3, y4, y5, (⟨n_f, zf, 1⟩ : In), ⟨n_r3, zr, 1⟩] = N8 at *
    have hl8 : N8.length = 8 := by rw [← hN8]; rfl
    clear hN8 hNm hNd hNl hI hz1 hz1' hz2 hz2' hx1 hx2
    have hd0 := hv.hw rfl
    have hd1 := hv.hs rfl
    have hP : ∀ p, p ∈ PP → BdP p := by
      have q : ∀ a b c : Int × Int, a ∈ decL → b ∈ decL → c ∈ decL → ∀ nm, BdP ⟨nm, 3, lF (0, 0) [a, b, c]⟩ := fun a b c ha hb hc nm => ⟨by show 3 ≤ 1000000000; omega, fun i hi => by
        have hi : i < 3 := hi
        rcases (by omega : i = 0 ∨ i = 1 ∨ i = 2) with rfl | rfl | rfl
        · exact dl_bd ha
        · exact dl_bd hb
        · exact dl_bd hc⟩
      intro p hp
      rw [hPP] at hp
      simp only [List.mem_cons, List.not_mem_nil, or_false] at hp
      rcases hp with rfl | rfl
      · exact q _ _ _ (hv.hx0 rfl) (hv.hx1 rfl) (hv.hx2 rfl) _
      · exact q _ _ _ (hv.hx3 rfl) (hv.hx4 rfl) (hv.hx5 rfl) _
    have hS : ∀ d, d ∈ [d0, d1] → BdS d := fun d hd => by
      simp only [List.mem_cons, List.not_mem_nil, or_false] at hd
      rcases hd with rfl | rfl
      · exact ⟨by have := hd0.ne; omega, hd0.ef⟩
      · exact ⟨by have := hd1.ne; omega, hd1.ef⟩
    have eE := valEval_c N8 [d0, d1] PP ⟨by omega, by show 2 ≤ 1000000000; omega, by rw [hPP]; show 2 ≤ 1000000000; omega, fun x hx => dl_bd (hD8.dl x hx), hS, hP⟩ e he.bd
    obtain ⟨F, hF⟩ : ∃ F, F = evalS N8 [d0, d1] PP e := ⟨_, rfl⟩
    rw [← hF] at eE
    repeat' (first | refine yo ?_ ?_ | refine yw ?_ ?_ | refine yk ?_ ?_ | exact trivial | with_reducible refine wA ?_ ?_ | refine ys ?_ ?_ | refine xs_done ?_ | refine yl ?_ ?_ | exact ⟨Nat.le_refl _, (by rw [hk]; exact Nat.le_of_ble_eq_true rfl), Nat.le_of_eq (Nat.zero_add _), (show (_ : Nat) * 32 ≤ 140737488355328 from by omega), (show (_ : Nat) ≤ 9223372036854775807 from by omega)⟩ | exact ⟨trivial, (by rw [hk]; exact Nat.le_of_ble_eq_true rfl), Nat.le_of_ble_eq_true rfl, (show (0 + N8.length) * 32 ≤ 140737488355328 from by omega), (show 0 + N8.length ≤ 9223372036854775807 from by omega)⟩ | refine z1 eE ?_ | refine z2 eE ?_ | refine z3 eE ?_ | refine z4 eE ?_ | refine z5 eE ?_ | refine w8 ?_ | refine w9 ?_ | refine w1 ?_ | refine w2 ?_ | refine w3 ?_ | refine w4 ?_ | refine w5 ?_ | refine w6 ?_ | refine w7 ?_ | refine yo0 ?_ ?_ | refine yw0 ?_ ?_ | exact qq | fail)
    refine pcan (st' := ⟨TL8 [d0, d1] PP F 0, [rTy t, rXE e, mRow kS M2, rRm F.1.1 F.1.2, oRow cIn 3 8 (msF N8 0)]⟩) (can_rowsv [1, 2, 3, 4, 6] (k0_sel hk rfl) rfl (.cons rfl (RowEq.cl (rTy_cl t)) (.cons rfl (RowEq.cl (rXE_cl e)) (.cons rfl m_eq (.cons rfl (RowEq.cl (rRm_cl _ _)) (.cons rfl (ms0 hl8 rfl) .nil))))) (by exact ⟨PEq.refl _, PEq.refl _, PEq.refl _, PEq.refl _, PEq.refl _, PEq.refl _, PEq.refl _, PEq.of (by show PV.lsl 4 0 (0 + N8.length) = _; rw [Nat.zero_add, hl8]), PEq.refl _, trivial⟩)) ?_
    refine ploop (fun q st => ∃ i : Nat, i ≤ 8 ∧ q = 8 - i ∧ st = ⟨TL8 [d0, d1] PP F i, [rTy t, rXE e, mRow kS M2, rRm F.1.1 F.1.2, oRow cIn 3 8 (msF N8 i)]⟩) 8 ⟨0, Nat.zero_le _, rfl, rfl⟩ ?_
    rintro _ _ ⟨i, hi, rfl, rfl⟩
    repeat' (first | refine yo ?_ ?_ | refine yw ?_ ?_ | refine yk ?_ ?_ | exact trivial | with_reducible refine wA ?_ ?_ | refine ys ?_ ?_ | refine xs_done ?_ | refine yl ?_ ?_ | refine w8 ?_ | refine w9 ?_ | refine w1 ?_ | refine w2 ?_ | refine w3 ?_ | refine w4 ?_ | refine w5 ?_ | refine w6 ?_ | refine w7 ?_ | refine yo0 ?_ ?_ | refine yw0 ?_ ?_ | exact qq | fail)
    refine pcond rfl ?_ ?_ <;> intro hc <;> simp at hc
    · have hx : lF dIn N8 i ∈ N8 := by unfold lF; rw [List.getD_eq_getElem?_getD, List.getElem?_eq_getElem (by omega)]; exact List.getElem_mem _
      have hu := uh_bd (lF dIn N8 i).nm
      have k1 := scaled_c (lF dIn N8 i).n (lF dIn N8 i).d (uhN (lF dIn N8 i).nm) (lit_at (hD8.dl _ hx) hu.1 hu.2).1 (by omega) (by omega)
      have hW : msF N8 i (0 + ((i : Nat) : Int).toNat) = lF dIn N8 i := by
        rw [show 0 + ((i : Nat) : Int).toNat = i by omega]; unfold msF; rw [if_neg (Nat.lt_irrefl _)]
      rw [← mget_uh] at k1
      conv at k1 => enter [3]; rw [← hW]
      have h8 : 0 + ((i : Nat) : Int).toNat < 8 := by omega
      have h9 : (0 : Int) ≤ ((i : Nat) : Int) ∧ ((i : Nat) : Int) < ((8 : Nat) : Int) := ⟨by omega, by omega⟩
      repeat' (first | refine yo ?_ ?_ | refine yw ?_ ?_ | refine yk ?_ ?_ | exact trivial | with_reducible refine wA ?_ ?_ | refine ys ?_ ?_ | refine xs_done ?_ | refine yl ?_ ?_ | refine w8 ?_ | refine w9 ?_ | refine w1 ?_ | refine w2 ?_ | refine w3 ?_ | refine w4 ?_ | refine w5 ?_ | refine w6 ?_ | refine w7 ?_ | refine yo0 ?_ ?_ | refine yw0 ?_ ?_ | exact qq | fail)
      refine xs_startH (id := 17) [] false [.take 0, .take 1, .take 2, .take 3, .take 7, .take 8, .take 9] 11 rfl (by kernel_rfl) ?_
      repeat' (first | refine xs rfl ?_ ?_ | exact trivial | ((with_reducible (show AllP (_ :: _))); refine And.intro ?_ ?_) | exact qq | exact (show 0 + ((i : Nat) : Int).toNat < 8 from by omega) | fail)
      refine bB 18 [0, 1, 2, 3, 7, 8, 9] [(4, [.take 5], false, 9), (10, [.take 11], false, 9)] (.cons ?_ (.cons ?_ (.nil)))
      focus
       refine nw rfl rfl rfl (by first | exact trivial | exact h8 | exact h9) ?_
       refine xs rfl (by first | exact ⟨trivial, trivial⟩ | exact ⟨h8, trivial⟩ | exact ⟨h9, trivial⟩) ?_
       refine bB 18 [0, 1, 2, 3, 4, 5, 7, 8, 9] [(6, [], false, 8), (10, [.take 11], false, 7)] (.cons ?_ (.cons ?_ (.nil)))
       focus
        refine nw rfl rfl rfl (by first | exact trivial | exact h8 | exact h9) ?_
        refine bB 18 [0, 1, 2, 3, 4, 5, 6, 7, 8, 9] [(10, [.take 11], false, 6)] (.cons ?_ (.nil))
        refine nw rfl rfl rfl (by first | exact trivial | exact h8 | exact h9) ?_
        refine xs rfl (by first | exact ⟨trivial, trivial⟩ | exact ⟨h8, trivial⟩ | exact ⟨h9, trivial⟩) ?_
        refine bB 18 [0, 1, 2, 3, 4, 5, 6, 7, 8, 9, 10, 11] [(12, [], false, 5)] (.cons ?_ (.nil))
        refine nw rfl rfl rfl (by first | exact trivial | exact h8 | exact h9) ?_
        refine bB 18 [0, 1, 2, 3, 4, 5, 6, 7, 8, 9, 10, 11, 12] [(13, [], false, 4)] (.cons ?_ (.nil))
        refine ⟨_, [], true, rfl, rfl, pst_look mapSI (msF N8 i (0 + ((i : Nat) : Int).toNat)).nm rfl rfl rfl rfl rfl rfl rfl ?_⟩
        refine bB 18 [0, 1, 2, 3, 4, 5, 6, 7, 8, 9, 10, 11, 12, 13] [(14, [], false, 3)] (.cons ?_ (.nil))
        refine ⟨_, [], true, rfl, rfl, pst_callv rfl rfl rfl rfl rfl k1 rfl rfl rfl ?_⟩
        refine bB 18 [0, 1, 2, 3, 4, 5, 6, 7, 8, 9, 10, 11, 12, 13, 14] [(15, [.take 16], false, 1)] (.cons ?_ (.nil))
        refine nw rfl rfl rfl (by first | exact trivial | exact h8 | exact h9) ?_
        refine xs rfl (by first | exact ⟨trivial, trivial⟩ | exact ⟨h8, trivial⟩ | exact ⟨h9, trivial⟩) ?_
        refine bB 18 [0, 1, 2, 3, 4, 5, 6, 7, 8, 9, 10, 11, 12, 13, 14, 15, 16] [(17, [], true, 0)] (.cons ?_ (.nil))
        refine ⟨_, [4], true, rfl, rfl, stepOp_pst rfl (show 0 + ((i : Nat) : Int).toNat < 8 from by omega) ?_⟩
        refine xs_done ?_
       rotate_left 1
       focus
        refine nw rfl rfl rfl (by first | exact trivial | exact h8 | exact h9) ?_
        refine xs rfl (by first | exact ⟨trivial, trivial⟩ | exact ⟨h8, trivial⟩ | exact ⟨h9, trivial⟩) ?_
        refine bB 18 [0, 1, 2, 3, 4, 5, 7, 8, 9, 10, 11] [(6, [], false, 6), (12, [], false, 6)] (.cons ?_ (.cons ?_ (.nil)))
        focus
         refine nw rfl rfl rfl (by first | exact trivial | exact h8 | exact h9) ?_
         refine bB 18 [0, 1, 2, 3, 4, 5, 6, 7, 8, 9, 10, 11] [(12, [], false, 5)] (.cons ?_ (.nil))
         refine nw rfl rfl rfl (by first | exact trivial | exact h8 | exact h9) ?_
         refine bB 18 [0, 1, 2, 3, 4, 5, 6, 7, 8, 9, 10, 11, 12] [(13, [], false, 4)] (.cons ?_ (.nil))
         refine ⟨_, [], true, rfl, rfl, pst_look mapSI (msF N8 i (0 + ((i : Nat) : Int).toNat)).nm rfl rfl rfl rfl rfl rfl rfl ?_⟩
         refine bB 18 [0, 1, 2, 3, 4, 5, 6, 7, 8, 9, 10, 11, 12, 13] [(14, [], false, 3)] (.cons ?_ (.nil))
         refine ⟨_, [], true, rfl, rfl, pst_callv rfl rfl rfl rfl rfl k1 rfl rfl rfl ?_⟩
         refine bB 18 [0, 1, 2, 3, 4, 5, 6, 7, 8, 9, 10, 11, 12, 13, 14] [(15, [.take 16], false, 1)] (.cons ?_ (.nil))
         refine nw rfl rfl rfl (by first | exact trivial | exact h8 | exact h9) ?_
         refine xs rfl (by first | exact ⟨trivial, trivial⟩ | exact ⟨h8, trivial⟩ | exact ⟨h9, trivial⟩) ?_
         refine bB 18 [0, 1, 2, 3, 4, 5, 6, 7, 8, 9, 10, 11, 12, 13, 14, 15, 16] [(17, [], true, 0)] (.cons ?_ (.nil))
         refine ⟨_, [4], true, rfl, rfl, stepOp_pst rfl (show 0 + ((i : Nat) : Int).toNat < 8 from by omega) ?_⟩
         refine xs_done ?_
        rotate_left 1
        focus
         refine nw rfl rfl rfl (by first | exact trivial | exact h8 | exact h9) ?_
         refine bB 18 [0, 1, 2, 3, 4, 5, 7, 8, 9, 10, 11, 12] [(6, [], false, 5), (13, [], false, 5)] (.cons ?_ (.cons ?_ (.nil)))
         focus
          refine nw rfl rfl rfl (by first | exact trivial | exact h8 | exact h9) ?_
          refine bB 18 [0, 1, 2, 3, 4, 5, 6, 7, 8, 9, 10, 11, 12] [(13, [], false, 4)] (.cons ?_ (.nil))
          refine ⟨_, [], true, rfl, rfl, pst_look mapSI (msF N8 i (0 + ((i : Nat) : Int).toNat)).nm rfl rfl rfl rfl rfl rfl rfl ?_⟩
          refine bB 18 [0, 1, 2, 3, 4, 5, 6, 7, 8, 9, 10, 11, 12, 13] [(14, [], false, 3)] (.cons ?_ (.nil))
          refine ⟨_, [], true, rfl, rfl, pst_callv rfl rfl rfl rfl rfl k1 rfl rfl rfl ?_⟩
          refine bB 18 [0, 1, 2, 3, 4, 5, 6, 7, 8, 9, 10, 11, 12, 13, 14] [(15, [.take 16], false, 1)] (.cons ?_ (.nil))
          refine nw rfl rfl rfl (by first | exact trivial | exact h8 | exact h9) ?_
          refine xs rfl (by first | exact ⟨trivial, trivial⟩ | exact ⟨h8, trivial⟩ | exact ⟨h9, trivial⟩) ?_
          refine bB 18 [0, 1, 2, 3, 4, 5, 6, 7, 8, 9, 10, 11, 12, 13, 14, 15, 16] [(17, [], true, 0)] (.cons ?_ (.nil))
          refine ⟨_, [4], true, rfl, rfl, stepOp_pst rfl (show 0 + ((i : Nat) : Int).toNat < 8 from by omega) ?_⟩
          refine xs_done ?_
         rotate_left 1
         focus
          refine ⟨_, [], true, rfl, rfl, pst_look mapSI (msF N8 i (0 + ((i : Nat) : Int).toNat)).nm rfl rfl rfl rfl rfl rfl rfl ?_⟩
          refine bB 18 [0, 1, 2, 3, 4, 5, 7, 8, 9, 10, 11, 12, 13] [(6, [], false, 4)] (.cons ?_ (.nil))
          refine nw rfl rfl rfl (by first | exact trivial | exact h8 | exact h9) ?_
          refine bB 18 [0, 1, 2, 3, 4, 5, 6, 7, 8, 9, 10, 11, 12, 13] [(14, [], false, 3)] (.cons ?_ (.nil))
          refine ⟨_, [], true, rfl, rfl, pst_callv rfl rfl rfl rfl rfl k1 rfl rfl rfl ?_⟩
          refine bB 18 [0, 1, 2, 3, 4, 5, 6, 7, 8, 9, 10, 11, 12, 13, 14] [(15, [.take 16], false, 1)] (.cons ?_ (.nil))
          refine nw rfl rfl rfl (by first | exact trivial | exact h8 | exact h9) ?_
          refine xs rfl (by first | exact ⟨trivial, trivial⟩ | exact ⟨h8, trivial⟩ | exact ⟨h9, trivial⟩) ?_
          refine bB 18 [0, 1, 2, 3, 4, 5, 6, 7, 8, 9, 10, 11, 12, 13, 14, 15, 16] [(17, [], true, 0)] (.cons ?_ (.nil))
          refine ⟨_, [4], true, rfl, rfl, stepOp_pst rfl (show 0 + ((i : Nat) : Int).toNat < 8 from by omega) ?_⟩
          refine xs_done ?_
      rotate_left 4
      focus
       refine nw rfl rfl rfl (by first | exact trivial | exact h8 | exact h9) ?_
       refine xs rfl (by first | exact ⟨trivial, trivial⟩ | exact ⟨h8, trivial⟩ | exact ⟨h9, trivial⟩) ?_
       refine bB 18 [0, 1, 2, 3, 7, 8, 9, 10, 11] [(4, [.take 5], false, 7), (12, [], false, 8)] (.cons ?_ (.cons ?_ (.nil)))
       focus
        refine nw rfl rfl rfl (by first | exact trivial | exact h8 | exact h9) ?_
        refine xs rfl (by first | exact ⟨trivial, trivial⟩ | exact ⟨h8, trivial⟩ | exact ⟨h9, trivial⟩) ?_
        refine bB 18 [0, 1, 2, 3, 4, 5, 7, 8, 9, 10, 11] [(6, [], false, 6), (12, [], false, 6)] (.cons ?_ (.cons ?_ (.nil)))
        focus
         refine nw rfl rfl rfl (by first | exact trivial | exact h8 | exact h9) ?_
         refine bB 18 [0, 1, 2, 3, 4, 5, 6, 7, 8, 9, 10, 11] [(12, [], false, 5)] (.cons ?_ (.nil))
         refine nw rfl rfl rfl (by first | exact trivial | exact h8 | exact h9) ?_
         refine bB 18 [0, 1, 2, 3, 4, 5, 6, 7, 8, 9, 10, 11, 12] [(13, [], false, 4)] (.cons ?_ (.nil))
         refine ⟨_, [], true, rfl, rfl, pst_look mapSI (msF N8 i (0 + ((i : Nat) : Int).toNat)).nm rfl rfl rfl rfl rfl rfl rfl ?_⟩
         refine bB 18 [0, 1, 2, 3, 4, 5, 6, 7, 8, 9, 10, 11, 12, 13] [(14, [], false, 3)] (.cons ?_ (.nil))
         refine ⟨_, [], true, rfl, rfl, pst_callv rfl rfl rfl rfl rfl k1 rfl rfl rfl ?_⟩
         refine bB 18 [0, 1, 2, 3, 4, 5, 6, 7, 8, 9, 10, 11, 12, 13, 14] [(15, [.take 16], false, 1)] (.cons ?_ (.nil))
         refine nw rfl rfl rfl (by first | exact trivial | exact h8 | exact h9) ?_
         refine xs rfl (by first | exact ⟨trivial, trivial⟩ | exact ⟨h8, trivial⟩ | exact ⟨h9, trivial⟩) ?_
         refine bB 18 [0, 1, 2, 3, 4, 5, 6, 7, 8, 9, 10, 11, 12, 13, 14, 15, 16] [(17, [], true, 0)] (.cons ?_ (.nil))
         refine ⟨_, [4], true, rfl, rfl, stepOp_pst rfl (show 0 + ((i : Nat) : Int).toNat < 8 from by omega) ?_⟩
         refine xs_done ?_
        rotate_left 1
        focus
         refine nw rfl rfl rfl (by first | exact trivial | exact h8 | exact h9) ?_
         refine bB 18 [0, 1, 2, 3, 4, 5, 7, 8, 9, 10, 11, 12] [(6, [], false, 5), (13, [], false, 5)] (.cons ?_ (.cons ?_ (.nil)))
         focus
          refine nw rfl rfl rfl (by first | exact trivial | exact h8 | exact h9) ?_
          refine bB 18 [0, 1, 2, 3, 4, 5, 6, 7, 8, 9, 10, 11, 12] [(13, [], false, 4)] (.cons ?_ (.nil))
          refine ⟨_, [], true, rfl, rfl, pst_look mapSI (msF N8 i (0 + ((i : Nat) : Int).toNat)).nm rfl rfl rfl rfl rfl rfl rfl ?_⟩
          refine bB 18 [0, 1, 2, 3, 4, 5, 6, 7, 8, 9, 10, 11, 12, 13] [(14, [], false, 3)] (.cons ?_ (.nil))
          refine ⟨_, [], true, rfl, rfl, pst_callv rfl rfl rfl rfl rfl k1 rfl rfl rfl ?_⟩
          refine bB 18 [0, 1, 2, 3, 4, 5, 6, 7, 8, 9, 10, 11, 12, 13, 14] [(15, [.take 16], false, 1)] (.cons ?_ (.nil))
          refine nw rfl rfl rfl (by first | exact trivial | exact h8 | exact h9) ?_
          refine xs rfl (by first | exact ⟨trivial, trivial⟩ | exact ⟨h8, trivial⟩ | exact ⟨h9, trivial⟩) ?_
          refine bB 18 [0, 1, 2, 3, 4, 5, 6, 7, 8, 9, 10, 11, 12, 13, 14, 15, 16] [(17, [], true, 0)] (.cons ?_ (.nil))
          refine ⟨_, [4], true, rfl, rfl, stepOp_pst rfl (show 0 + ((i : Nat) : Int).toNat < 8 from by omega) ?_⟩
          refine xs_done ?_
         rotate_left 1
         focus
          refine ⟨_, [], true, rfl, rfl, pst_look mapSI (msF N8 i (0 + ((i : Nat) : Int).toNat)).nm rfl rfl rfl rfl rfl rfl rfl ?_⟩
          refine bB 18 [0, 1, 2, 3, 4, 5, 7, 8, 9, 10, 11, 12, 13] [(6, [], false, 4)] (.cons ?_ (.nil))
          refine nw rfl rfl rfl (by first | exact trivial | exact h8 | exact h9) ?_
          refine bB 18 [0, 1, 2, 3, 4, 5, 6, 7, 8, 9, 10, 11, 12, 13] [(14, [], false, 3)] (.cons ?_ (.nil))
          refine ⟨_, [], true, rfl, rfl, pst_callv rfl rfl rfl rfl rfl k1 rfl rfl rfl ?_⟩
          refine bB 18 [0, 1, 2, 3, 4, 5, 6, 7, 8, 9, 10, 11, 12, 13, 14] [(15, [.take 16], false, 1)] (.cons ?_ (.nil))
          refine nw rfl rfl rfl (by first | exact trivial | exact h8 | exact h9) ?_
          refine xs rfl (by first | exact ⟨trivial, trivial⟩ | exact ⟨h8, trivial⟩ | exact ⟨h9, trivial⟩) ?_
          refine bB 18 [0, 1, 2, 3, 4, 5, 6, 7, 8, 9, 10, 11, 12, 13, 14, 15, 16] [(17, [], true, 0)] (.cons ?_ (.nil))
          refine ⟨_, [4], true, rfl, rfl, stepOp_pst rfl (show 0 + ((i : Nat) : Int).toNat < 8 from by omega) ?_⟩
          refine xs_done ?_
       rotate_left 3
       focus
        refine nw rfl rfl rfl (by first | exact trivial | exact h8 | exact h9) ?_
        refine bB 18 [0, 1, 2, 3, 7, 8, 9, 10, 11, 12] [(4, [.take 5], false, 6), (13, [], false, 7)] (.cons ?_ (.cons ?_ (.nil)))
        focus
         refine nw rfl rfl rfl (by first | exact trivial | exact h8 | exact h9) ?_
         refine xs rfl (by first | exact ⟨trivial, trivial⟩ | exact ⟨h8, trivial⟩ | exact ⟨h9, trivial⟩) ?_
         refine bB 18 [0, 1, 2, 3, 4, 5, 7, 8, 9, 10, 11, 12] [(6, [], false, 5), (13, [], false, 5)] (.cons ?_ (.cons ?_ (.nil)))
         focus
          refine nw rfl rfl rfl (by first | exact trivial | exact h8 | exact h9) ?_
          refine bB 18 [0, 1, 2, 3, 4, 5, 6, 7, 8, 9, 10, 11, 12] [(13, [], false, 4)] (.cons ?_ (.nil))
          refine ⟨_, [], true, rfl, rfl, pst_look mapSI (msF N8 i (0 + ((i : Nat) : Int).toNat)).nm rfl rfl rfl rfl rfl rfl rfl ?_⟩
          refine bB 18 [0, 1, 2, 3, 4, 5, 6, 7, 8, 9, 10, 11, 12, 13] [(14, [], false, 3)] (.cons ?_ (.nil))
          refine ⟨_, [], true, rfl, rfl, pst_callv rfl rfl rfl rfl rfl k1 rfl rfl rfl ?_⟩
          refine bB 18 [0, 1, 2, 3, 4, 5, 6, 7, 8, 9, 10, 11, 12, 13, 14] [(15, [.take 16], false, 1)] (.cons ?_ (.nil))
          refine nw rfl rfl rfl (by first | exact trivial | exact h8 | exact h9) ?_
          refine xs rfl (by first | exact ⟨trivial, trivial⟩ | exact ⟨h8, trivial⟩ | exact ⟨h9, trivial⟩) ?_
          refine bB 18 [0, 1, 2, 3, 4, 5, 6, 7, 8, 9, 10, 11, 12, 13, 14, 15, 16] [(17, [], true, 0)] (.cons ?_ (.nil))
          refine ⟨_, [4], true, rfl, rfl, stepOp_pst rfl (show 0 + ((i : Nat) : Int).toNat < 8 from by omega) ?_⟩
          refine xs_done ?_
         rotate_left 1
         focus
          refine ⟨_, [], true, rfl, rfl, pst_look mapSI (msF N8 i (0 + ((i : Nat) : Int).toNat)).nm rfl rfl rfl rfl rfl rfl rfl ?_⟩
          refine bB 18 [0, 1, 2, 3, 4, 5, 7, 8, 9, 10, 11, 12, 13] [(6, [], false, 4)] (.cons ?_ (.nil))
          refine nw rfl rfl rfl (by first | exact trivial | exact h8 | exact h9) ?_
          refine bB 18 [0, 1, 2, 3, 4, 5, 6, 7, 8, 9, 10, 11, 12, 13] [(14, [], false, 3)] (.cons ?_ (.nil))
          refine ⟨_, [], true, rfl, rfl, pst_callv rfl rfl rfl rfl rfl k1 rfl rfl rfl ?_⟩
          refine bB 18 [0, 1, 2, 3, 4, 5, 6, 7, 8, 9, 10, 11, 12, 13, 14] [(15, [.take 16], false, 1)] (.cons ?_ (.nil))
          refine nw rfl rfl rfl (by first | exact trivial | exact h8 | exact h9) ?_
          refine xs rfl (by first | exact ⟨trivial, trivial⟩ | exact ⟨h8, trivial⟩ | exact ⟨h9, trivial⟩) ?_
          refine bB 18 [0, 1, 2, 3, 4, 5, 6, 7, 8, 9, 10, 11, 12, 13, 14, 15, 16] [(17, [], true, 0)] (.cons ?_ (.nil))
          refine ⟨_, [4], true, rfl, rfl, stepOp_pst rfl (show 0 + ((i : Nat) : Int).toNat < 8 from by omega) ?_⟩
          refine xs_done ?_
        rotate_left 2
        focus
         refine ⟨_, [], true, rfl, rfl, pst_look mapSI (msF N8 i (0 + ((i : Nat) : Int).toNat)).nm rfl rfl rfl rfl rfl rfl rfl ?_⟩
         refine bB 18 [0, 1, 2, 3, 7, 8, 9, 10, 11, 12, 13] [(4, [.take 5], false, 5)] (.cons ?_ (.nil))
         refine nw rfl rfl rfl (by first | exact trivial | exact h8 | exact h9) ?_
         refine xs rfl (by first | exact ⟨trivial, trivial⟩ | exact ⟨h8, trivial⟩ | exact ⟨h9, trivial⟩) ?_
         refine bB 18 [0, 1, 2, 3, 4, 5, 7, 8, 9, 10, 11, 12, 13] [(6, [], false, 4)] (.cons ?_ (.nil))
         refine nw rfl rfl rfl (by first | exact trivial | exact h8 | exact h9) ?_
         refine bB 18 [0, 1, 2, 3, 4, 5, 6, 7, 8, 9, 10, 11, 12, 13] [(14, [], false, 3)] (.cons ?_ (.nil))
         refine ⟨_, [], true, rfl, rfl, pst_callv rfl rfl rfl rfl rfl k1 rfl rfl rfl ?_⟩
         refine bB 18 [0, 1, 2, 3, 4, 5, 6, 7, 8, 9, 10, 11, 12, 13, 14] [(15, [.take 16], false, 1)] (.cons ?_ (.nil))
         refine nw rfl rfl rfl (by first | exact trivial | exact h8 | exact h9) ?_
         refine xs rfl (by first | exact ⟨trivial, trivial⟩ | exact ⟨h8, trivial⟩ | exact ⟨h9, trivial⟩) ?_
         refine bB 18 [0, 1, 2, 3, 4, 5, 6, 7, 8, 9, 10, 11, 12, 13, 14, 15, 16] [(17, [], true, 0)] (.cons ?_ (.nil))
         refine ⟨_, [4], true, rfl, rfl, stepOp_pst rfl (show 0 + ((i : Nat) : Int).toNat < 8 from by omega) ?_⟩
         refine xs_done ?_
      all_goals
        repeat' (first | refine yo ?_ ?_ | refine yw ?_ ?_ | refine yk ?_ ?_ | exact trivial | with_reducible refine wA ?_ ?_ | refine ys ?_ ?_ | refine xs_done ?_ | refine yl ?_ ?_ | refine w8 ?_ | refine w9 ?_ | refine w1 ?_ | refine w2 ?_ | refine w3 ?_ | refine w4 ?_ | refine w5 ?_ | refine w6 ?_ | refine w7 ?_ | refine yo0 ?_ ?_ | refine yw0 ?_ ?_ | exact qq | fail)
        rw [show IntKind.i64.wrap ((i : Int) + 1) = ((i + 1 : Nat) : Int) from w64 (by omega) (by omega)]
        exact kloop_next (st' := ⟨TL8 [d0, d1] PP F (i + 1), [rTy t, rXE e, mRow kS M2, rRm F.1.1 F.1.2, oRow cIn 3 8 (msF N8 (i + 1))]⟩) (8 - (i + 1)) (can_rowsv [0, 1, 2, 3, 4] (k0_sel hk rfl) rfl (.cons rfl (RowEq.cl (rTy_cl t)) (.cons rfl (RowEq.cl (rXE_cl e)) (.cons rfl m_eq (.cons rfl (RowEq.cl (rRm_cl _ _)) (.cons rfl (msq (j := 0 + ((i : Nat) : Int).toNat) (by omega) (by rw [mget_uh]; rfl) (by rw [mget_uh]; rfl) rfl) .nil))))) tmq) (by omega) ⟨i + 1, by omega, rfl, rfl⟩
    · obtain rfl : i = 8 := by omega
      have hv8 : (vIns N8) = (vIns N8) := rfl
      repeat' (first | refine yo ?_ ?_ | refine yw ?_ ?_ | refine yk ?_ ?_ | exact trivial | with_reducible refine wA ?_ ?_ | refine ys ?_ ?_ | refine xs_done ?_ | refine yl ?_ ?_ | refine w8 ?_ | refine w9 ?_ | refine w1 ?_ | refine w2 ?_ | refine w3 ?_ | refine w4 ?_ | refine w5 ?_ | refine w6 ?_ | refine w7 ?_ | refine yo0 ?_ ?_ | refine yw0 ?_ ?_ | exact qq | fail)
      refine xs_startH (id := 18) [] false [.take 0, .take 1, .take 2, .take 3, .take 4, .take 5] 2 rfl (by kernel_rfl) ?_
      repeat' (first | refine xs rfl ?_ ?_ | exact trivial | ((with_reducible (show AllP (_ :: _))); refine And.intro ?_ ?_) | exact qq | exact (show (0 : Int) ≤ 0 ∧ (0 : Int) < 2 from by decide) | exact (show (0 : Int) ≤ 1 ∧ (1 : Int) < 2 from by decide) | exact (show 0 < 2 from by decide) | exact (show 1 < 2 from by decide) | fail)
      refine bB 8 [0, 1, 2, 3, 4, 5] [(6, [.take 7], true, 0)] (.cons ?_ (.nil))
      refine nw rfl rfl rfl trivial ?_
      repeat' (first | refine xs rfl ?_ ?_ | exact trivial | ((with_reducible (show AllP (_ :: _))); refine And.intro ?_ ?_) | exact qq | exact (show (0 : Int) ≤ 0 ∧ (0 : Int) < 2 from by decide) | exact (show (0 : Int) ≤ 1 ∧ (1 : Int) < 2 from by decide) | exact (show 0 < 2 from by decide) | exact (show 1 < 2 from by decide) | fail)
      refine xs_done ?_
      repeat' (first | refine yo ?_ ?_ | refine yw ?_ ?_ | refine yk ?_ ?_ | exact trivial | with_reducible refine wA ?_ ?_ | refine ys ?_ ?_ | refine xs_done ?_ | refine yl ?_ ?_ | exact ⟨Nat.le_refl _, (by rw [hk]; exact Nat.le_of_ble_eq_true rfl), Nat.le_of_eq (Nat.zero_add _), (show (_ : Nat) * 24 ≤ 140737488355328 from by omega), (show (_ : Nat) ≤ 9223372036854775807 from by omega)⟩ | exact (show (0 : Int) ≤ 0 ∧ (0 : Int) < 2 from by decide) | exact (show 0 < 2 from by decide) | exact ⟨trivial, (by rw [hk]; exact Nat.le_of_ble_eq_true rfl), Nat.le_of_ble_eq_true rfl, (show (0 + d0.ne) * 24 ≤ 140737488355328 from by have := hd0.ne; omega), (show 0 + d0.ne ≤ 9223372036854775807 from by have := hd0.ne; omega)⟩ | refine w8 ?_ | refine w9 ?_ | refine w1 ?_ | refine w2 ?_ | refine w3 ?_ | refine w4 ?_ | refine w5 ?_ | refine w6 ?_ | refine w7 ?_ | refine yo0 ?_ ?_ | refine yw0 ?_ ?_ | exact qq | fail)
      refine pcan (st' := ⟨TL4 PP F 0, [rTy t, rXE e, rRm F.1.1 F.1.2, oRow cIn 3 8 (msF N8 8), rU d0 d1 5 d0.ne, oRow cN3 3 d0.ne (mnF d0.ef 0)]⟩) (can_rowsv [0, 1, 3, 4, 5, 7] (k0_sel hk rfl) rfl (.cons rfl (RowEq.cl (rTy_cl t)) (.cons rfl (RowEq.cl (rXE_cl e)) (.cons rfl (RowEq.cl (rRm_cl _ _)) (.cons rfl (RowEq.cl (o_cl cIn_cl _ _ _)) (.cons rfl (rU_eq (l := 7) (k' := 0 + d0.ne) rfl (Nat.zero_add _) rfl) (.cons rfl (mn0 rfl) .nil)))))) tmq) ?_
      refine ploop (fun q st => ∃ i : Nat, i ≤ d0.ne ∧ q = d0.ne - i ∧ st = ⟨TL4 PP F i, [rTy t, rXE e, rRm F.1.1 F.1.2, oRow cIn 3 8 (msF N8 8), rU d0 d1 5 d0.ne, oRow cN3 3 d0.ne (mnF d0.ef i)]⟩) d0.ne ⟨0, Nat.zero_le _, rfl, rfl⟩ ?_
      clear hi hc
      rintro _ _ ⟨i, hi, rfl, rfl⟩
      have hne := hd0.ne
      repeat' (first | refine yo ?_ ?_ | refine yw ?_ ?_ | refine yk ?_ ?_ | exact trivial | with_reducible refine wA ?_ ?_ | refine ys ?_ ?_ | refine xs_done ?_ | refine yl ?_ ?_ | exact (show (0 : Int) ≤ 0 ∧ (0 : Int) < 2 from by decide) | exact (show 0 < 2 from by decide) | refine w8 ?_ | refine w9 ?_ | refine w1 ?_ | refine w2 ?_ | refine w3 ?_ | refine w4 ?_ | refine w5 ?_ | refine w6 ?_ | refine w7 ?_ | refine yo0 ?_ ?_ | refine yw0 ?_ ?_ | exact qq | fail)
      refine pcond rfl ?_ ?_ <;> intro hc <;> simp at hc
      · have k1 := scaled_c (d0.ef i).2.1 (d0.ef i).2.2 (-1) (lit_at (hd0.dl i hc).1 (k := -1) (by omega) (by omega)).1 (by omega) (by omega)
        have hW : mnF d0.ef i (0 + ((i : Nat) : Int).toNat) = d0.ef i := by
          rw [show 0 + ((i : Nat) : Int).toNat = i by omega]; unfold mnF; rw [if_neg (Nat.lt_irrefl _)]
        conv at k1 => enter [3]; rw [← hW]
        have h8 : 0 + ((i : Nat) : Int).toNat < d0.ne := by omega
        have h9 : (0 : Int) ≤ ((i : Nat) : Int) ∧ ((i : Nat) : Int) < ((d0.ne : Nat) : Int) := ⟨by omega, by omega⟩
        repeat' (first | refine yo ?_ ?_ | refine yw ?_ ?_ | refine yk ?_ ?_ | exact trivial | with_reducible refine wA ?_ ?_ | refine ys ?_ ?_ | refine xs_done ?_ | refine yl ?_ ?_ | refine w8 ?_ | refine w9 ?_ | refine w1 ?_ | refine w2 ?_ | refine w3 ?_ | refine w4 ?_ | refine w5 ?_ | refine w6 ?_ | refine w7 ?_ | refine yo0 ?_ ?_ | refine yw0 ?_ ?_ | exact qq | fail)
        refine xs_startH (id := 23) [4] false [.take 0, .take 1, .take 2, .take 3, .take 4, .take 5, .take 6, .take 7, .take 8, .take 9] 7 rfl (by kernel_rfl) ?_
        repeat' (first | refine xs rfl ?_ ?_ | exact trivial | ((with_reducible (show AllP (_ :: _))); refine And.intro ?_ ?_) | exact qq | exact (show 0 + ((i : Nat) : Int).toNat < d0.ne from by omega) | exact (show (0 : Int) ≤ 0 ∧ (0 : Int) < 2 from by decide) | exact (show 0 < 2 from by decide) | fail)
        refine bB 17 [0, 1, 2, 3, 4, 5, 6, 7, 8, 9] [(10, [.take 11], false, 5)] (.cons ?_ (.nil))
        refine nw rfl rfl rfl (by first | exact trivial | exact h8 | exact h9) ?_
        refine xs rfl (by first | exact ⟨trivial, trivial⟩ | exact ⟨h8, trivial⟩ | exact ⟨h9, trivial⟩) ?_
        refine bB 17 [0, 1, 2, 3, 4, 5, 6, 7, 8, 9, 10, 11] [(12, [], false, 4)] (.cons ?_ (.nil))
        refine nw rfl rfl rfl (by first | exact trivial | exact h8 | exact h9) ?_
        refine bB 17 [0, 1, 2, 3, 4, 5, 6, 7, 8, 9, 10, 11, 12] [(13, [], false, 3)] (.cons ?_ (.nil))
        refine ⟨_, [], true, rfl, rfl, pst_callv rfl rfl rfl rfl rfl k1 rfl rfl rfl ?_⟩
        refine bB 17 [0, 1, 2, 3, 4, 5, 6, 7, 8, 9, 10, 11, 12, 13] [(14, [.take 15], false, 1)] (.cons ?_ (.nil))
        refine nw rfl rfl rfl (by first | exact trivial | exact h8 | exact h9) ?_
        refine xs rfl (by first | exact ⟨trivial, trivial⟩ | exact ⟨h8, trivial⟩ | exact ⟨h9, trivial⟩) ?_
        refine bB 17 [0, 1, 2, 3, 4, 5, 6, 7, 8, 9, 10, 11, 12, 13, 14, 15] [(16, [], true, 0)] (.cons ?_ (.nil))
        refine ⟨_, [5], true, rfl, rfl, stepOp_pst rfl (show 0 + ((i : Nat) : Int).toNat < d0.ne from by omega) ?_⟩
        refine xs_done ?_
        repeat' (first | refine yo ?_ ?_ | refine yw ?_ ?_ | refine yk ?_ ?_ | exact trivial | with_reducible refine wA ?_ ?_ | refine ys ?_ ?_ | refine xs_done ?_ | refine yl ?_ ?_ | refine w8 ?_ | refine w9 ?_ | refine w1 ?_ | refine w2 ?_ | refine w3 ?_ | refine w4 ?_ | refine w5 ?_ | refine w6 ?_ | refine w7 ?_ | refine yo0 ?_ ?_ | refine yw0 ?_ ?_ | exact qq | fail)
        rw [show IntKind.i64.wrap ((i : Int) + 1) = ((i + 1 : Nat) : Int) from w64 (by omega) (by omega)]
        exact kloop_next (st' := ⟨TL4 PP F (i + 1), [rTy t, rXE e, rRm F.1.1 F.1.2, oRow cIn 3 8 (msF N8 8), rU d0 d1 5 d0.ne, oRow cN3 3 d0.ne (mnF d0.ef (i + 1))]⟩) (d0.ne - (i + 1)) (can_rowsv [0, 1, 2, 3, 4, 5] (k0_sel hk rfl) rfl (.cons rfl (RowEq.cl (rTy_cl t)) (.cons rfl (RowEq.cl (rXE_cl e)) (.cons rfl (RowEq.cl (rRm_cl _ _)) (.cons rfl (RowEq.cl (o_cl cIn_cl _ _ _)) (.cons rfl (rU_eq (l := 5) (k' := d0.ne) rfl rfl rfl) (.cons rfl (mnq (j := 0 + ((i : Nat) : Int).toNat) (by omega) rfl) .nil)))))) tmq) (by omega) ⟨i + 1, by omega, rfl, rfl⟩
      · obtain rfl : i = d0.ne := by omega
        subst hPP
        repeat' (first | refine yo ?_ ?_ | refine yw ?_ ?_ | refine yk ?_ ?_ | exact trivial | with_reducible refine wA ?_ ?_ | refine ys ?_ ?_ | refine xs_done ?_ | refine yl ?_ ?_ | exact (show (0 : Int) ≤ 0 ∧ (0 : Int) < 2 from by decide) | exact (show 0 < 2 from by decide) | refine w8 ?_ | refine w9 ?_ | refine w1 ?_ | refine w2 ?_ | refine w3 ?_ | refine w4 ?_ | refine w5 ?_ | refine w6 ?_ | refine w7 ?_ | refine yo0 ?_ ?_ | refine yw0 ?_ ?_ | exact qq | fail)
        refine pcan (st' := ⟨TL7 (PPx x0 x1 x2 x3 x4 x5) F 0, RL7 t e F N8 d0 d1 [rQ0 x0 x1 x2]⟩) (can_rowsv [0, 1, 2, 3, 4, 5, 6] (k0_sel hk rfl) rfl (.cons rfl (RowEq.cl (rTy_cl t)) (.cons rfl (RowEq.cl (rXE_cl e)) (.cons rfl (RowEq.cl (rRm_cl _ _)) (.cons rfl (RowEq.cl (o_cl cIn_cl _ _ _)) (.cons rfl (rU_eq (l := 5) (k' := d0.ne) rfl rfl rfl) (.cons rfl (RowEq.cl (o_cl cN3_cl _ _ _)) (.cons rfl (RowEq.cl (rQ0_cl x0 x1 x2)) .nil))))))) tmq) ?_
        have h8 : 1 < 2 := by decide
        have h9 : (0 : Int) ≤ 1 ∧ (1 : Int) < 2 := by decide
        have v7 : Γ.k0 ≤ 7 := by rw [show Γ.k0 = 0 from hk]; exact Nat.zero_le _
        refine ploop (fun q st => (q = 3 ∧ st = ⟨TL7 (PPx x0 x1 x2 x3 x4 x5) F 0, RL7 t e F N8 d0 d1 [rQ0 x0 x1 x2]⟩) ∨ (∃ i : Nat, i < 3 ∧ q = 2 - i ∧ st = ⟨TL7 (PPx x0 x1 x2 x3 x4 x5) F (i + 1), RL7 t e F N8 d0 d1 [rQ x0 x1 x2 (.lsl 7 0 (i + 1)), oRow cPr 2 (i + 1) (fun a => scS (lF (0, 0) [x3, x4, x5] a) 1)]⟩)) 3 (.inl ⟨rfl, rfl⟩) ?_
        rintro _ _ (⟨rfl, rfl⟩ | ⟨i, hi3, rfl, rfl⟩)
        · have k1 := scaled_c x3.1 x3.2 1 (lit_at (hv.hx3 rfl) (k := 1) (by omega) (by omega)).1 (by omega) (by omega)
          repeat' (first | refine yo ?_ ?_ | refine yw ?_ ?_ | refine yk ?_ ?_ | exact trivial | with_reducible refine wA ?_ ?_ | refine ys ?_ ?_ | refine xs_done ?_ | refine yl ?_ ?_ | refine w8 ?_ | refine w9 ?_ | refine w1 ?_ | refine w2 ?_ | refine w3 ?_ | refine w4 ?_ | refine w5 ?_ | refine w6 ?_ | refine w7 ?_ | refine yo0 ?_ ?_ | refine yw0 ?_ ?_ | exact qq | fail)
          refine xs_startH (id := 28) [] false [.take 0, .take 1, .take 5, .take 6, .take 7, .take 8, .take 9, .take 10, .take 11] 9 rfl (by kernel_rfl) ?_
          repeat' (first | refine xs rfl ?_ ?_ | exact trivial | ((with_reducible (show AllP (_ :: _))); refine And.intro ?_ ?_) | exact qq | exact (show (0 : Int) ≤ 1 ∧ (1 : Int) < 2 from by decide) | exact (show 1 < 2 from by decide) | exact (show (0 : Int) ≤ ((0 : Nat) : Int) ∧ ((0 : Nat) : Int) < ((3 : Nat) : Int) from by decide) | exact (show ((0 : Nat) : Int).toNat < 3 from by decide) | fail)
          refine bB 18 [0, 1, 5, 6, 7, 8, 9, 10, 11] [(2, [.take 3], false, 7), (12, [], false, 8)] (.cons ?_ (.cons ?_ (.nil)))
          focus
           refine nw rfl rfl rfl (by first | exact trivial | exact h8 | exact h9) ?_
           refine xs rfl (by first | exact ⟨trivial, trivial⟩ | exact ⟨h8, trivial⟩ | exact ⟨h9, trivial⟩) ?_
           refine bB 18 [0, 1, 2, 3, 5, 6, 7, 8, 9, 10, 11] [(4, [], false, 6), (12, [], false, 6)] (.cons ?_ (.cons ?_ (.nil)))
           focus
            refine nw rfl rfl rfl (by first | exact trivial | exact h8 | exact h9) ?_
            refine bB 18 [0, 1, 2, 3, 4, 5, 6, 7, 8, 9, 10, 11] [(12, [], false, 5)] (.cons ?_ (.nil))
            refine ⟨_, [], true, rfl, rfl, pst_callv rfl rfl rfl rfl rfl k1 rfl rfl rfl ?_⟩
            refine bB 18 [0, 1, 2, 3, 4, 5, 6, 7, 8, 9, 10, 11, 12] [(13, [], false, 4)] (.cons ?_ (.nil))
            refine nw rfl rfl rfl trivial ?_
            refine bB 18 [0, 1, 2, 3, 4, 5, 6, 7, 8, 9, 10, 11, 12, 13] [(14, [], false, 3)] (.cons ?_ (.nil))
            refine ⟨_, [], true, rfl, rfl, stepOp_pst rfl (by first | exact ⟨nbl, nbl, nbl, nbl⟩ | exact ⟨nbl, v7, nbl, nbl, nbl⟩) ?_⟩
            refine bB 18 [0, 1, 2, 3, 4, 5, 6, 7, 8, 9, 10, 11, 12, 13, 14] [(15, [.take 16], false, 1)] (.cons ?_ (.nil))
            refine nw rfl rfl rfl (by first | exact trivial | exact h8 | exact h9) ?_
            refine xs rfl (by first | exact ⟨trivial, trivial⟩ | exact ⟨h8, trivial⟩ | exact ⟨h9, trivial⟩) ?_
            refine bB 18 [0, 1, 2, 3, 4, 5, 6, 7, 8, 9, 10, 11, 12, 13, 14, 15, 16] [(17, [], true, 0)] (.cons ?_ (.nil))
            refine ⟨_, [6], true, rfl, rfl, stepOp_pst rfl (show 1 < 2 from by decide) ?_⟩
            refine xs_done ?_
           rotate_left 1
           focus
            refine ⟨_, [], true, rfl, rfl, pst_callv rfl rfl rfl rfl rfl k1 rfl rfl rfl ?_⟩
            refine bB 18 [0, 1, 2, 3, 5, 6, 7, 8, 9, 10, 11, 12] [(4, [], false, 5), (13, [], false, 5)] (.cons ?_ (.cons ?_ (.nil)))
            focus
             refine nw rfl rfl rfl (by first | exact trivial | exact h8 | exact h9) ?_
             refine bB 18 [0, 1, 2, 3, 4, 5, 6, 7, 8, 9, 10, 11, 12] [(13, [], false, 4)] (.cons ?_ (.nil))
             refine nw rfl rfl rfl trivial ?_
             refine bB 18 [0, 1, 2, 3, 4, 5, 6, 7, 8, 9, 10, 11, 12, 13] [(14, [], false, 3)] (.cons ?_ (.nil))
             refine ⟨_, [], true, rfl, rfl, stepOp_pst rfl (by first | exact ⟨nbl, nbl, nbl, nbl⟩ | exact ⟨nbl, v7, nbl, nbl, nbl⟩) ?_⟩
             refine bB 18 [0, 1, 2, 3, 4, 5, 6, 7, 8, 9, 10, 11, 12, 13, 14] [(15, [.take 16], false, 1)] (.cons ?_ (.nil))
             refine nw rfl rfl rfl (by first | exact trivial | exact h8 | exact h9) ?_
             refine xs rfl (by first | exact ⟨trivial, trivial⟩ | exact ⟨h8, trivial⟩ | exact ⟨h9, trivial⟩) ?_
             refine bB 18 [0, 1, 2, 3, 4, 5, 6, 7, 8, 9, 10, 11, 12, 13, 14, 15, 16] [(17, [], true, 0)] (.cons ?_ (.nil))
             refine ⟨_, [6], true, rfl, rfl, stepOp_pst rfl (show 1 < 2 from by decide) ?_⟩
             refine xs_done ?_
            rotate_left 1
            focus
             refine nw rfl rfl rfl trivial ?_
             refine bB 18 [0, 1, 2, 3, 5, 6, 7, 8, 9, 10, 11, 12, 13] [(4, [], false, 4)] (.cons ?_ (.nil))
             refine nw rfl rfl rfl (by first | exact trivial | exact h8 | exact h9) ?_
             refine bB 18 [0, 1, 2, 3, 4, 5, 6, 7, 8, 9, 10, 11, 12, 13] [(14, [], false, 3)] (.cons ?_ (.nil))
             refine ⟨_, [], true, rfl, rfl, stepOp_pst rfl (by first | exact ⟨nbl, nbl, nbl, nbl⟩ | exact ⟨nbl, v7, nbl, nbl, nbl⟩) ?_⟩
             refine bB 18 [0, 1, 2, 3, 4, 5, 6, 7, 8, 9, 10, 11, 12, 13, 14] [(15, [.take 16], false, 1)] (.cons ?_ (.nil))
             refine nw rfl rfl rfl (by first | exact trivial | exact h8 | exact h9) ?_
             refine xs rfl (by first | exact ⟨trivial, trivial⟩ | exact ⟨h8, trivial⟩ | exact ⟨h9, trivial⟩) ?_
             refine bB 18 [0, 1, 2, 3, 4, 5, 6, 7, 8, 9, 10, 11, 12, 13, 14, 15, 16] [(17, [], true, 0)] (.cons ?_ (.nil))
             refine ⟨_, [6], true, rfl, rfl, stepOp_pst rfl (show 1 < 2 from by decide) ?_⟩
             refine xs_done ?_
          rotate_left 3
          focus
           refine ⟨_, [], true, rfl, rfl, pst_callv rfl rfl rfl rfl rfl k1 rfl rfl rfl ?_⟩
           refine bB 18 [0, 1, 5, 6, 7, 8, 9, 10, 11, 12] [(2, [.take 3], false, 6), (13, [], false, 7)] (.cons ?_ (.cons ?_ (.nil)))
           focus
            refine nw rfl rfl rfl (by first | exact trivial | exact h8 | exact h9) ?_
            refine xs rfl (by first | exact ⟨trivial, trivial⟩ | exact ⟨h8, trivial⟩ | exact ⟨h9, trivial⟩) ?_
            refine bB 18 [0, 1, 2, 3, 5, 6, 7, 8, 9, 10, 11, 12] [(4, [], false, 5), (13, [], false, 5)] (.cons ?_ (.cons ?_ (.nil)))
            focus
             refine nw rfl rfl rfl (by first | exact trivial | exact h8 | exact h9) ?_
             refine bB 18 [0, 1, 2, 3, 4, 5, 6, 7, 8, 9, 10, 11, 12] [(13, [], false, 4)] (.cons ?_ (.nil))
             refine nw rfl rfl rfl trivial ?_
             refine bB 18 [0, 1, 2, 3, 4, 5, 6, 7, 8, 9, 10, 11, 12, 13] [(14, [], false, 3)] (.cons ?_ (.nil))
             refine ⟨_, [], true, rfl, rfl, stepOp_pst rfl (by first | exact ⟨nbl, nbl, nbl, nbl⟩ | exact ⟨nbl, v7, nbl, nbl, nbl⟩) ?_⟩
             refine bB 18 [0, 1, 2, 3, 4, 5, 6, 7, 8, 9, 10, 11, 12, 13, 14] [(15, [.take 16], false, 1)] (.cons ?_ (.nil))
             refine nw rfl rfl rfl (by first | exact trivial | exact h8 | exact h9) ?_
             refine xs rfl (by first | exact ⟨trivial, trivial⟩ | exact ⟨h8, trivial⟩ | exact ⟨h9, trivial⟩) ?_
             refine bB 18 [0, 1, 2, 3, 4, 5, 6, 7, 8, 9, 10, 11, 12, 13, 14, 15, 16] [(17, [], true, 0)] (.cons ?_ (.nil))
             refine ⟨_, [6], true, rfl, rfl, stepOp_pst rfl (show 1 < 2 from by decide) ?_⟩
             refine xs_done ?_
            rotate_left 1
            focus
             refine nw rfl rfl rfl trivial ?_
             refine bB 18 [0, 1, 2, 3, 5, 6, 7, 8, 9, 10, 11, 12, 13] [(4, [], false, 4)] (.cons ?_ (.nil))
             refine nw rfl rfl rfl (by first | exact trivial | exact h8 | exact h9) ?_
             refine bB 18 [0, 1, 2, 3, 4, 5, 6, 7, 8, 9, 10, 11, 12, 13] [(14, [], false, 3)] (.cons ?_ (.nil))
             refine ⟨_, [], true, rfl, rfl, stepOp_pst rfl (by first | exact ⟨nbl, nbl, nbl, nbl⟩ | exact ⟨nbl, v7, nbl, nbl, nbl⟩) ?_⟩
             refine bB 18 [0, 1, 2, 3, 4, 5, 6, 7, 8, 9, 10, 11, 12, 13, 14] [(15, [.take 16], false, 1)] (.cons ?_ (.nil))
             refine nw rfl rfl rfl (by first | exact trivial | exact h8 | exact h9) ?_
             refine xs rfl (by first | exact ⟨trivial, trivial⟩ | exact ⟨h8, trivial⟩ | exact ⟨h9, trivial⟩) ?_
             refine bB 18 [0, 1, 2, 3, 4, 5, 6, 7, 8, 9, 10, 11, 12, 13, 14, 15, 16] [(17, [], true, 0)] (.cons ?_ (.nil))
             refine ⟨_, [6], true, rfl, rfl, stepOp_pst rfl (show 1 < 2 from by decide) ?_⟩
             refine xs_done ?_
           rotate_left 2
           focus
            refine nw rfl rfl rfl trivial ?_
            refine bB 18 [0, 1, 5, 6, 7, 8, 9, 10, 11, 12, 13] [(2, [.take 3], false, 5)] (.cons ?_ (.nil))
            refine nw rfl rfl rfl (by first | exact trivial | exact h8 | exact h9) ?_
            refine xs rfl (by first | exact ⟨trivial, trivial⟩ | exact ⟨h8, trivial⟩ | exact ⟨h9, trivial⟩) ?_
            refine bB 18 [0, 1, 2, 3, 5, 6, 7, 8, 9, 10, 11, 12, 13] [(4, [], false, 4)] (.cons ?_ (.nil))
            refine nw rfl rfl rfl (by first | exact trivial | exact h8 | exact h9) ?_
            refine bB 18 [0, 1, 2, 3, 4, 5, 6, 7, 8, 9, 10, 11, 12, 13] [(14, [], false, 3)] (.cons ?_ (.nil))
            refine ⟨_, [], true, rfl, rfl, stepOp_pst rfl (by first | exact ⟨nbl, nbl, nbl, nbl⟩ | exact ⟨nbl, v7, nbl, nbl, nbl⟩) ?_⟩
            refine bB 18 [0, 1, 2, 3, 4, 5, 6, 7, 8, 9, 10, 11, 12, 13, 14] [(15, [.take 16], false, 1)] (.cons ?_ (.nil))
            refine nw rfl rfl rfl (by first | exact trivial | exact h8 | exact h9) ?_
            refine xs rfl (by first | exact ⟨trivial, trivial⟩ | exact ⟨h8, trivial⟩ | exact ⟨h9, trivial⟩) ?_
            refine bB 18 [0, 1, 2, 3, 4, 5, 6, 7, 8, 9, 10, 11, 12, 13, 14, 15, 16] [(17, [], true, 0)] (.cons ?_ (.nil))
            refine ⟨_, [6], true, rfl, rfl, stepOp_pst rfl (show 1 < 2 from by decide) ?_⟩
            refine xs_done ?_
          all_goals
            repeat' (first | refine yo ?_ ?_ | refine yw ?_ ?_ | refine yk ?_ ?_ | exact trivial | with_reducible refine wA ?_ ?_ | refine ys ?_ ?_ | refine xs_done ?_ | refine yl ?_ ?_ | refine w8 ?_ | refine w9 ?_ | refine w1 ?_ | refine w2 ?_ | refine w3 ?_ | refine w4 ?_ | refine w5 ?_ | refine w6 ?_ | refine w7 ?_ | refine yo0 ?_ ?_ | refine yw0 ?_ ?_ | exact qq | fail)
            rw [show IntKind.i64.wrap (((0 : Nat) : Int) + 1) = ((1 : Nat) : Int) from w64 (by decide) (by decide)]
            exact kloop_next (st' := ⟨TL7 (PPx x0 x1 x2 x3 x4 x5) F (0 + 1), RL7 t e F N8 d0 d1 [rQ x0 x1 x2 (.lsl 7 0 (0 + 1)), oRow cPr 2 (0 + 1) (fun a => scS (lF (0, 0) [x3, x4, x5] a) 1)]⟩) (2 - 0) (can_rowsv [0, 1, 2, 3, 4, 5, 6, 8] (k0_sel hk rfl) rfl (.cons rfl (RowEq.cl (rTy_cl t)) (.cons rfl (RowEq.cl (rXE_cl e)) (.cons rfl (RowEq.cl (rRm_cl _ _)) (.cons rfl (RowEq.cl (o_cl cIn_cl _ _ _)) (.cons rfl (rU_eq (l := 5) (k' := d0.ne) rfl rfl rfl) (.cons rfl (RowEq.cl (o_cl cN3_cl _ _ _)) (.cons rfl (rQ_eq (l := 8) (k' := 1) rfl rfl rfl rfl) (.cons rfl (o_eq cPr_cl2 (Nat.le_refl _) (fun a ha b hb => by have hb : b < 2 := hb; have ha : a < 1 := ha; obtain rfl : a = 0 := (by omega); rcases (by omega : b = 0 ∨ b = 1) with rfl | rfl <;> rfl)) .nil)))))))) tmq) (by decide) (.inr ⟨0, by decide, rfl, rfl⟩)
        rcases (by omega : i = 0 ∨ i = 1 ∨ i = 2) with rfl | rfl | rfl
        · have k1 := scaled_c x4.1 x4.2 1 (lit_at (hv.hx4 rfl) (k := 1) (by omega) (by omega)).1 (by omega) (by omega)
          repeat' (first | refine yo ?_ ?_ | refine yw ?_ ?_ | refine yk ?_ ?_ | exact trivial | with_reducible refine wA ?_ ?_ | refine ys ?_ ?_ | refine xs_done ?_ | refine yl ?_ ?_ | refine w8 ?_ | refine w9 ?_ | refine w1 ?_ | refine w2 ?_ | refine w3 ?_ | refine w4 ?_ | refine w5 ?_ | refine w6 ?_ | refine w7 ?_ | refine yo0 ?_ ?_ | refine yw0 ?_ ?_ | exact qq | fail)
          refine xs_startH (id := 28) [] false [.take 0, .take 1, .take 5, .take 6, .take 7, .take 8, .take 9, .take 10, .take 11] 9 rfl (by kernel_rfl) ?_
          repeat' (first | refine xs rfl ?_ ?_ | exact trivial | ((with_reducible (show AllP (_ :: _))); refine And.intro ?_ ?_) | exact qq | exact (show (0 : Int) ≤ 1 ∧ (1 : Int) < 2 from by decide) | exact (show 1 < 2 from by decide) | exact (show (0 : Int) ≤ ((1 : Nat) : Int) ∧ ((1 : Nat) : Int) < ((3 : Nat) : Int) from by decide) | exact (show ((1 : Nat) : Int).toNat < 3 from by decide) | fail)
          refine bB 18 [0, 1, 5, 6, 7, 8, 9, 10, 11] [(2, [.take 3], false, 7), (12, [], false, 8)] (.cons ?_ (.cons ?_ (.nil)))
          focus
           refine nw rfl rfl rfl (by first | exact trivial | exact h8 | exact h9) ?_
           refine xs rfl (by first | exact ⟨trivial, trivial⟩ | exact ⟨h8, trivial⟩ | exact ⟨h9, trivial⟩) ?_
           refine bB 18 [0, 1, 2, 3, 5, 6, 7, 8, 9, 10, 11] [(4, [], false, 6), (12, [], false, 6)] (.cons ?_ (.cons ?_ (.nil)))
           focus
            refine nw rfl rfl rfl (by first | exact trivial | exact h8 | exact h9) ?_
            refine bB 18 [0, 1, 2, 3, 4, 5, 6, 7, 8, 9, 10, 11] [(12, [], false, 5)] (.cons ?_ (.nil))
            refine ⟨_, [], true, rfl, rfl, pst_callv rfl rfl rfl rfl rfl k1 rfl rfl rfl ?_⟩
            refine bB 18 [0, 1, 2, 3, 4, 5, 6, 7, 8, 9, 10, 11, 12] [(13, [], false, 4)] (.cons ?_ (.nil))
            refine nw rfl rfl rfl trivial ?_
            refine bB 18 [0, 1, 2, 3, 4, 5, 6, 7, 8, 9, 10, 11, 12, 13] [(14, [], false, 3)] (.cons ?_ (.nil))
            refine ⟨_, [7], true, rfl, rfl, stepOp_pst rfl (by first | exact ⟨nbl, nbl, nbl, nbl⟩ | exact ⟨nbl, v7, nbl, nbl, nbl⟩) ?_⟩
            refine bB 18 [0, 1, 2, 3, 4, 5, 6, 7, 8, 9, 10, 11, 12, 13, 14] [(15, [.take 16], false, 1)] (.cons ?_ (.nil))
            refine nw rfl rfl rfl (by first | exact trivial | exact h8 | exact h9) ?_
            refine xs rfl (by first | exact ⟨trivial, trivial⟩ | exact ⟨h8, trivial⟩ | exact ⟨h9, trivial⟩) ?_
            refine bB 18 [0, 1, 2, 3, 4, 5, 6, 7, 8, 9, 10, 11, 12, 13, 14, 15, 16] [(17, [], true, 0)] (.cons ?_ (.nil))
            refine ⟨_, [6], true, rfl, rfl, stepOp_pst rfl (show 1 < 2 from by decide) ?_⟩
            refine xs_done ?_
           rotate_left 1
           focus
            refine ⟨_, [], true, rfl, rfl, pst_callv rfl rfl rfl rfl rfl k1 rfl rfl rfl ?_⟩
            refine bB 18 [0, 1, 2, 3, 5, 6, 7, 8, 9, 10, 11, 12] [(4, [], false, 5), (13, [], false, 5)] (.cons ?_ (.cons ?_ (.nil)))
            focus
             refine nw rfl rfl rfl (by first | exact trivial | exact h8 | exact h9) ?_
             refine bB 18 [0, 1, 2, 3, 4, 5, 6, 7, 8, 9, 10, 11, 12] [(13, [], false, 4)] (.cons ?_ (.nil))
             refine nw rfl rfl rfl trivial ?_
             refine bB 18 [0, 1, 2, 3, 4, 5, 6, 7, 8, 9, 10, 11, 12, 13] [(14, [], false, 3)] (.cons ?_ (.nil))
             refine ⟨_, [7], true, rfl, rfl, stepOp_pst rfl (by first | exact ⟨nbl, nbl, nbl, nbl⟩ | exact ⟨nbl, v7, nbl, nbl, nbl⟩) ?_⟩
             refine bB 18 [0, 1, 2, 3, 4, 5, 6, 7, 8, 9, 10, 11, 12, 13, 14] [(15, [.take 16], false, 1)] (.cons ?_ (.nil))
             refine nw rfl rfl rfl (by first | exact trivial | exact h8 | exact h9) ?_
             refine xs rfl (by first | exact ⟨trivial, trivial⟩ | exact ⟨h8, trivial⟩ | exact ⟨h9, trivial⟩) ?_
             refine bB 18 [0, 1, 2, 3, 4, 5, 6, 7, 8, 9, 10, 11, 12, 13, 14, 15, 16] [(17, [], true, 0)] (.cons ?_ (.nil))
             refine ⟨_, [6], true, rfl, rfl, stepOp_pst rfl (show 1 < 2 from by decide) ?_⟩
             refine xs_done ?_
            rotate_left 1
            focus
             refine nw rfl rfl rfl trivial ?_
             refine bB 18 [0, 1, 2, 3, 5, 6, 7, 8, 9, 10, 11, 12, 13] [(4, [], false, 4)] (.cons ?_ (.nil))
             refine nw rfl rfl rfl (by first | exact trivial | exact h8 | exact h9) ?_
             refine bB 18 [0, 1, 2, 3, 4, 5, 6, 7, 8, 9, 10, 11, 12, 13] [(14, [], false, 3)] (.cons ?_ (.nil))
             refine ⟨_, [7], true, rfl, rfl, stepOp_pst rfl (by first | exact ⟨nbl, nbl, nbl, nbl⟩ | exact ⟨nbl, v7, nbl, nbl, nbl⟩) ?_⟩
             refine bB 18 [0, 1, 2, 3, 4, 5, 6, 7, 8, 9, 10, 11, 12, 13, 14] [(15, [.take 16], false, 1)] (.cons ?_ (.nil))
             refine nw rfl rfl rfl (by first | exact trivial | exact h8 | exact h9) ?_
             refine xs rfl (by first | exact ⟨trivial, trivial⟩ | exact ⟨h8, trivial⟩ | exact ⟨h9, trivial⟩) ?_
             refine bB 18 [0, 1, 2, 3, 4, 5, 6, 7, 8, 9, 10, 11, 12, 13, 14, 15, 16] [(17, [], true, 0)] (.cons ?_ (.nil))
             refine ⟨_, [6], true, rfl, rfl, stepOp_pst rfl (show 1 < 2 from by decide) ?_⟩
             refine xs_done ?_
          rotate_left 3
          focus
           refine ⟨_, [], true, rfl, rfl, pst_callv rfl rfl rfl rfl rfl k1 rfl rfl rfl ?_⟩
           refine bB 18 [0, 1, 5, 6, 7, 8, 9, 10, 11, 12] [(2, [.take 3], false, 6), (13, [], false, 7)] (.cons ?_ (.cons ?_ (.nil)))
           focus
            refine nw rfl rfl rfl (by first | exact trivial | exact h8 | exact h9) ?_
            refine xs rfl (by first | exact ⟨trivial, trivial⟩ | exact ⟨h8, trivial⟩ | exact ⟨h9, trivial⟩) ?_
            refine bB 18 [0, 1, 2, 3, 5, 6, 7, 8, 9, 10, 11, 12] [(4, [], false, 5), (13, [], false, 5)] (.cons ?_ (.cons ?_ (.nil)))
            focus
             refine nw rfl rfl rfl (by first | exact trivial | exact h8 | exact h9) ?_
             refine bB 18 [0, 1, 2, 3, 4, 5, 6, 7, 8, 9, 10, 11, 12] [(13, [], false, 4)] (.cons ?_ (.nil))
             refine nw rfl rfl rfl trivial ?_
             refine bB 18 [0, 1, 2, 3, 4, 5, 6, 7, 8, 9, 10, 11, 12, 13] [(14, [], false, 3)] (.cons ?_ (.nil))
             refine ⟨_, [7], true, rfl, rfl, stepOp_pst rfl (by first | exact ⟨nbl, nbl, nbl, nbl⟩ | exact ⟨nbl, v7, nbl, nbl, nbl⟩) ?_⟩
             refine bB 18 [0, 1, 2, 3, 4, 5, 6, 7, 8, 9, 10, 11, 12, 13, 14] [(15, [.take 16], false, 1)] (.cons ?_ (.nil))
             refine nw rfl rfl rfl (by first | exact trivial | exact h8 | exact h9) ?_
             refine xs rfl (by first | exact ⟨trivial, trivial⟩ | exact ⟨h8, trivial⟩ | exact ⟨h9, trivial⟩) ?_
             refine bB 18 [0, 1, 2, 3, 4, 5, 6, 7, 8, 9, 10, 11, 12, 13, 14, 15, 16] [(17, [], true, 0)] (.cons ?_ (.nil))
             refine ⟨_, [6], true, rfl, rfl, stepOp_pst rfl (show 1 < 2 from by decide) ?_⟩
             refine xs_done ?_
            rotate_left 1
            focus
             refine nw rfl rfl rfl trivial ?_
             refine bB 18 [0, 1, 2, 3, 5, 6, 7, 8, 9, 10, 11, 12, 13] [(4, [], false, 4)] (.cons ?_ (.nil))
             refine nw rfl rfl rfl (by first | exact trivial | exact h8 | exact h9) ?_
             refine bB 18 [0, 1, 2, 3, 4, 5, 6, 7, 8, 9, 10, 11, 12, 13] [(14, [], false, 3)] (.cons ?_ (.nil))
             refine ⟨_, [7], true, rfl, rfl, stepOp_pst rfl (by first | exact ⟨nbl, nbl, nbl, nbl⟩ | exact ⟨nbl, v7, nbl, nbl, nbl⟩) ?_⟩
             refine bB 18 [0, 1, 2, 3, 4, 5, 6, 7, 8, 9, 10, 11, 12, 13, 14] [(15, [.take 16], false, 1)] (.cons ?_ (.nil))
             refine nw rfl rfl rfl (by first | exact trivial | exact h8 | exact h9) ?_
             refine xs rfl (by first | exact ⟨trivial, trivial⟩ | exact ⟨h8, trivial⟩ | exact ⟨h9, trivial⟩) ?_
             refine bB 18 [0, 1, 2, 3, 4, 5, 6, 7, 8, 9, 10, 11, 12, 13, 14, 15, 16] [(17, [], true, 0)] (.cons ?_ (.nil))
             refine ⟨_, [6], true, rfl, rfl, stepOp_pst rfl (show 1 < 2 from by decide) ?_⟩
             refine xs_done ?_
           rotate_left 2
           focus
            refine nw rfl rfl rfl trivial ?_
            refine bB 18 [0, 1, 5, 6, 7, 8, 9, 10, 11, 12, 13] [(2, [.take 3], false, 5)] (.cons ?_ (.nil))
            refine nw rfl rfl rfl (by first | exact trivial | exact h8 | exact h9) ?_
            refine xs rfl (by first | exact ⟨trivial, trivial⟩ | exact ⟨h8, trivial⟩ | exact ⟨h9, trivial⟩) ?_
            refine bB 18 [0, 1, 2, 3, 5, 6, 7, 8, 9, 10, 11, 12, 13] [(4, [], false, 4)] (.cons ?_ (.nil))
            refine nw rfl rfl rfl (by first | exact trivial | exact h8 | exact h9) ?_
            refine bB 18 [0, 1, 2, 3, 4, 5, 6, 7, 8, 9, 10, 11, 12, 13] [(14, [], false, 3)] (.cons ?_ (.nil))
            refine ⟨_, [7], true, rfl, rfl, stepOp_pst rfl (by first | exact ⟨nbl, nbl, nbl, nbl⟩ | exact ⟨nbl, v7, nbl, nbl, nbl⟩) ?_⟩
            refine bB 18 [0, 1, 2, 3, 4, 5, 6, 7, 8, 9, 10, 11, 12, 13, 14] [(15, [.take 16], false, 1)] (.cons ?_ (.nil))
            refine nw rfl rfl rfl (by first | exact trivial | exact h8 | exact h9) ?_
            refine xs rfl (by first | exact ⟨trivial, trivial⟩ | exact ⟨h8, trivial⟩ | exact ⟨h9, trivial⟩) ?_
            refine bB 18 [0, 1, 2, 3, 4, 5, 6, 7, 8, 9, 10, 11, 12, 13, 14, 15, 16] [(17, [], true, 0)] (.cons ?_ (.nil))
            refine ⟨_, [6], true, rfl, rfl, stepOp_pst rfl (show 1 < 2 from by decide) ?_⟩
            refine xs_done ?_
          all_goals
            repeat' (first | refine yo ?_ ?_ | refine yw ?_ ?_ | refine yk ?_ ?_ | exact trivial | with_reducible refine wA ?_ ?_ | refine ys ?_ ?_ | refine xs_done ?_ | refine yl ?_ ?_ | refine w8 ?_ | refine w9 ?_ | refine w1 ?_ | refine w2 ?_ | refine w3 ?_ | refine w4 ?_ | refine w5 ?_ | refine w6 ?_ | refine w7 ?_ | refine yo0 ?_ ?_ | refine yw0 ?_ ?_ | exact qq | fail)
            rw [show IntKind.i64.wrap (((1 : Nat) : Int) + 1) = ((2 : Nat) : Int) from w64 (by decide) (by decide)]
            exact kloop_next (st' := ⟨TL7 (PPx x0 x1 x2 x3 x4 x5) F (1 + 1), RL7 t e F N8 d0 d1 [rQ x0 x1 x2 (.lsl 7 0 (1 + 1)), oRow cPr 2 (1 + 1) (fun a => scS (lF (0, 0) [x3, x4, x5] a) 1)]⟩) (2 - 1) (can_rowsv [0, 1, 2, 3, 4, 5, 6, 9] (k0_sel hk rfl) rfl (.cons rfl (RowEq.cl (rTy_cl t)) (.cons rfl (RowEq.cl (rXE_cl e)) (.cons rfl (RowEq.cl (rRm_cl _ _)) (.cons rfl (RowEq.cl (o_cl cIn_cl _ _ _)) (.cons rfl (rU_eq (l := 5) (k' := d0.ne) rfl rfl rfl) (.cons rfl (RowEq.cl (o_cl cN3_cl _ _ _)) (.cons rfl (rQ_eq (l := 9) (k' := 2) rfl rfl rfl rfl) (.cons rfl (o_eq cPr_cl2 (Nat.le_refl _) (fun a ha b hb => by have hb : b < 2 := hb; have ha : a < 2 := ha; rcases (by omega : a = 0 ∨ a = 1) with rfl | rfl <;> rcases (by omega : b = 0 ∨ b = 1) with rfl | rfl <;> rfl)) .nil)))))))) tmq) (by decide) (.inr ⟨1, by decide, rfl, rfl⟩)
        · have k1 := scaled_c x5.1 x5.2 1 (lit_at (hv.hx5 rfl) (k := 1) (by omega) (by omega)).1 (by omega) (by omega)
          repeat' (first | refine yo ?_ ?_ | refine yw ?_ ?_ | refine yk ?_ ?_ | exact trivial | with_reducible refine wA ?_ ?_ | refine ys ?_ ?_ | refine xs_done ?_ | refine yl ?_ ?_ | refine w8 ?_ | refine w9 ?_ | refine w1 ?_ | refine w2 ?_ | refine w3 ?_ | refine w4 ?_ | refine w5 ?_ | refine w6 ?_ | refine w7 ?_ | refine yo0 ?_ ?_ | refine yw0 ?_ ?_ | exact qq | fail)
          refine xs_startH (id := 28) [] false [.take 0, .take 1, .take 5, .take 6, .take 7, .take 8, .take 9, .take 10, .take 11] 9 rfl (by kernel_rfl) ?_
          repeat' (first | refine xs rfl ?_ ?_ | exact trivial | ((with_reducible (show AllP (_ :: _))); refine And.intro ?_ ?_) | exact qq | exact (show (0 : Int) ≤ 1 ∧ (1 : Int) < 2 from by decide) | exact (show 1 < 2 from by decide) | exact (show (0 : Int) ≤ ((2 : Nat) : Int) ∧ ((2 : Nat) : Int) < ((3 : Nat) : Int) from by decide) | exact (show ((2 : Nat) : Int).toNat < 3 from by decide) | fail)
          refine bB 18 [0, 1, 5, 6, 7, 8, 9, 10, 11] [(2, [.take 3], false, 7), (12, [], false, 8)] (.cons ?_ (.cons ?_ (.nil)))
          focus
           refine nw rfl rfl rfl (by first | exact trivial | exact h8 | exact h9) ?_
           refine xs rfl (by first | exact ⟨trivial, trivial⟩ | exact ⟨h8, trivial⟩ | exact ⟨h9, trivial⟩) ?_
           refine bB 18 [0, 1, 2, 3, 5, 6, 7, 8, 9, 10, 11] [(4, [], false, 6), (12, [], false, 6)] (.cons ?_ (.cons ?_ (.nil)))
           focus
            refine nw rfl rfl rfl (by first | exact trivial | exact h8 | exact h9) ?_
            refine bB 18 [0, 1, 2, 3, 4, 5, 6, 7, 8, 9, 10, 11] [(12, [], false, 5)] (.cons ?_ (.nil))
            refine ⟨_, [], true, rfl, rfl, pst_callv rfl rfl rfl rfl rfl k1 rfl rfl rfl ?_⟩
            refine bB 18 [0, 1, 2, 3, 4, 5, 6, 7, 8, 9, 10, 11, 12] [(13, [], false, 4)] (.cons ?_ (.nil))
            refine nw rfl rfl rfl trivial ?_
            refine bB 18 [0, 1, 2, 3, 4, 5, 6, 7, 8, 9, 10, 11, 12, 13] [(14, [], false, 3)] (.cons ?_ (.nil))
            refine ⟨_, [7], true, rfl, rfl, stepOp_pst rfl (by first | exact ⟨nbl, nbl, nbl, nbl⟩ | exact ⟨nbl, v7, nbl, nbl, nbl⟩) ?_⟩
            refine bB 18 [0, 1, 2, 3, 4, 5, 6, 7, 8, 9, 10, 11, 12, 13, 14] [(15, [.take 16], false, 1)] (.cons ?_ (.nil))
            refine nw rfl rfl rfl (by first | exact trivial | exact h8 | exact h9) ?_
            refine xs rfl (by first | exact ⟨trivial, trivial⟩ | exact ⟨h8, trivial⟩ | exact ⟨h9, trivial⟩) ?_
            refine bB 18 [0, 1, 2, 3, 4, 5, 6, 7, 8, 9, 10, 11, 12, 13, 14, 15, 16] [(17, [], true, 0)] (.cons ?_ (.nil))
            refine ⟨_, [6], true, rfl, rfl, stepOp_pst rfl (show 1 < 2 from by decide) ?_⟩
            refine xs_done ?_
           rotate_left 1
           focus
            refine ⟨_, [], true, rfl, rfl, pst_callv rfl rfl rfl rfl rfl k1 rfl rfl rfl ?_⟩
            refine bB 18 [0, 1, 2, 3, 5, 6, 7, 8, 9, 10, 11, 12] [(4, [], false, 5), (13, [], false, 5)] (.cons ?_ (.cons ?_ (.nil)))
            focus
             refine nw rfl rfl rfl (by first | exact trivial | exact h8 | exact h9) ?_
             refine bB 18 [0, 1, 2, 3, 4, 5, 6, 7, 8, 9, 10, 11, 12] [(13, [], false, 4)] (.cons ?_ (.nil))
             refine nw rfl rfl rfl trivial ?_
             refine bB 18 [0, 1, 2, 3, 4, 5, 6, 7, 8, 9, 10, 11, 12, 13] [(14, [], false, 3)] (.cons ?_ (.nil))
             refine ⟨_, [7], true, rfl, rfl, stepOp_pst rfl (by first | exact ⟨nbl, nbl, nbl, nbl⟩ | exact ⟨nbl, v7, nbl, nbl, nbl⟩) ?_⟩
             refine bB 18 [0, 1, 2, 3, 4, 5, 6, 7, 8, 9, 10, 11, 12, 13, 14] [(15, [.take 16], false, 1)] (.cons ?_ (.nil))
             refine nw rfl rfl rfl (by first | exact trivial | exact h8 | exact h9) ?_
             refine xs rfl (by first | exact ⟨trivial, trivial⟩ | exact ⟨h8, trivial⟩ | exact ⟨h9, trivial⟩) ?_
             refine bB 18 [0, 1, 2, 3, 4, 5, 6, 7, 8, 9, 10, 11, 12, 13, 14, 15, 16] [(17, [], true, 0)] (.cons ?_ (.nil))
             refine ⟨_, [6], true, rfl, rfl, stepOp_pst rfl (show 1 < 2 from by decide) ?_⟩
             refine xs_done ?_
            rotate_left 1
            focus
             refine nw rfl rfl rfl trivial ?_
             refine bB 18 [0, 1, 2, 3, 5, 6, 7, 8, 9, 10, 11, 12, 13] [(4, [], false, 4)] (.cons ?_ (.nil))
             refine nw rfl rfl rfl (by first | exact trivial | exact h8 | exact h9) ?_
             refine bB 18 [0, 1, 2, 3, 4, 5, 6, 7, 8, 9, 10, 11, 12, 13] [(14, [], false, 3)] (.cons ?_ (.nil))
             refine ⟨_, [7], true, rfl, rfl, stepOp_pst rfl (by first | exact ⟨nbl, nbl, nbl, nbl⟩ | exact ⟨nbl, v7, nbl, nbl, nbl⟩) ?_⟩
             refine bB 18 [0, 1, 2, 3, 4, 5, 6, 7, 8, 9, 10, 11, 12, 13, 14] [(15, [.take 16], false, 1)] (.cons ?_ (.nil))
             refine nw rfl rfl rfl (by first | exact trivial | exact h8 | exact h9) ?_
             refine xs rfl (by first | exact ⟨trivial, trivial⟩ | exact ⟨h8, trivial⟩ | exact ⟨h9, trivial⟩) ?_
             refine bB 18 [0, 1, 2, 3, 4, 5, 6, 7, 8, 9, 10, 11, 12, 13, 14, 15, 16] [(17, [], true, 0)] (.cons ?_ (.nil))
             refine ⟨_, [6], true, rfl, rfl, stepOp_pst rfl (show 1 < 2 from by decide) ?_⟩
             refine xs_done ?_
          rotate_left 3
          focus
           refine ⟨_, [], true, rfl, rfl, pst_callv rfl rfl rfl rfl rfl k1 rfl rfl rfl ?_⟩
           refine bB 18 [0, 1, 5, 6, 7, 8, 9, 10, 11, 12] [(2, [.take 3], false, 6), (13, [], false, 7)] (.cons ?_ (.cons ?_ (.nil)))
           focus
            refine nw rfl rfl rfl (by first | exact trivial | exact h8 | exact h9) ?_
            refine xs rfl (by first | exact ⟨trivial, trivial⟩ | exact ⟨h8, trivial⟩ | exact ⟨h9, trivial⟩) ?_
            refine bB 18 [0, 1, 2, 3, 5, 6, 7, 8, 9, 10, 11, 12] [(4, [], false, 5), (13, [], false, 5)] (.cons ?_ (.cons ?_ (.nil)))
            focus
             refine nw rfl rfl rfl (by first | exact trivial | exact h8 | exact h9) ?_
             refine bB 18 [0, 1, 2, 3, 4, 5, 6, 7, 8, 9, 10, 11, 12] [(13, [], false, 4)] (.cons ?_ (.nil))
             refine nw rfl rfl rfl trivial ?_
             refine bB 18 [0, 1, 2, 3, 4, 5, 6, 7, 8, 9, 10, 11, 12, 13] [(14, [], false, 3)] (.cons ?_ (.nil))
             refine ⟨_, [7], true, rfl, rfl, stepOp_pst rfl (by first | exact ⟨nbl, nbl, nbl, nbl⟩ | exact ⟨nbl, v7, nbl, nbl, nbl⟩) ?_⟩
             refine bB 18 [0, 1, 2, 3, 4, 5, 6, 7, 8, 9, 10, 11, 12, 13, 14] [(15, [.take 16], false, 1)] (.cons ?_ (.nil))
             refine nw rfl rfl rfl (by first | exact trivial | exact h8 | exact h9) ?_
             refine xs rfl (by first | exact ⟨trivial, trivial⟩ | exact ⟨h8, trivial⟩ | exact ⟨h9, trivial⟩) ?_
             refine bB 18 [0, 1, 2, 3, 4, 5, 6, 7, 8, 9, 10, 11, 12, 13, 14, 15, 16] [(17, [], true, 0)] (.cons ?_ (.nil))
             refine ⟨_, [6], true, rfl, rfl, stepOp_pst rfl (show 1 < 2 from by decide) ?_⟩
             refine xs_done ?_
            rotate_left 1
            focus
             refine nw rfl rfl rfl trivial ?_
             refine bB 18 [0, 1, 2, 3, 5, 6, 7, 8, 9, 10, 11, 12, 13] [(4, [], false, 4)] (.cons ?_ (.nil))
             refine nw rfl rfl rfl (by first | exact trivial | exact h8 | exact h9) ?_
             refine bB 18 [0, 1, 2, 3, 4, 5, 6, 7, 8, 9, 10, 11, 12, 13] [(14, [], false, 3)] (.cons ?_ (.nil))
             refine ⟨_, [7], true, rfl, rfl, stepOp_pst rfl (by first | exact ⟨nbl, nbl, nbl, nbl⟩ | exact ⟨nbl, v7, nbl, nbl, nbl⟩) ?_⟩
             refine bB 18 [0, 1, 2, 3, 4, 5, 6, 7, 8, 9, 10, 11, 12, 13, 14] [(15, [.take 16], false, 1)] (.cons ?_ (.nil))
             refine nw rfl rfl rfl (by first | exact trivial | exact h8 | exact h9) ?_
             refine xs rfl (by first | exact ⟨trivial, trivial⟩ | exact ⟨h8, trivial⟩ | exact ⟨h9, trivial⟩) ?_
             refine bB 18 [0, 1, 2, 3, 4, 5, 6, 7, 8, 9, 10, 11, 12, 13, 14, 15, 16] [(17, [], true, 0)] (.cons ?_ (.nil))
             refine ⟨_, [6], true, rfl, rfl, stepOp_pst rfl (show 1 < 2 from by decide) ?_⟩
             refine xs_done ?_
           rotate_left 2
           focus
            refine nw rfl rfl rfl trivial ?_
            refine bB 18 [0, 1, 5, 6, 7, 8, 9, 10, 11, 12, 13] [(2, [.take 3], false, 5)] (.cons ?_ (.nil))
            refine nw rfl rfl rfl (by first | exact trivial | exact h8 | exact h9) ?_
            refine xs rfl (by first | exact ⟨trivial, trivial⟩ | exact ⟨h8, trivial⟩ | exact ⟨h9, trivial⟩) ?_
            refine bB 18 [0, 1, 2, 3, 5, 6, 7, 8, 9, 10, 11, 12, 13] [(4, [], false, 4)] (.cons ?_ (.nil))
            refine nw rfl rfl rfl (by first | exact trivial | exact h8 | exact h9) ?_
            refine bB 18 [0, 1, 2, 3, 4, 5, 6, 7, 8, 9, 10, 11, 12, 13] [(14, [], false, 3)] (.cons ?_ (.nil))
            refine ⟨_, [7], true, rfl, rfl, stepOp_pst rfl (by first | exact ⟨nbl, nbl, nbl, nbl⟩ | exact ⟨nbl, v7, nbl, nbl, nbl⟩) ?_⟩
            refine bB 18 [0, 1, 2, 3, 4, 5, 6, 7, 8, 9, 10, 11, 12, 13, 14] [(15, [.take 16], false, 1)] (.cons ?_ (.nil))
            refine nw rfl rfl rfl (by first | exact trivial | exact h8 | exact h9) ?_
            refine xs rfl (by first | exact ⟨trivial, trivial⟩ | exact ⟨h8, trivial⟩ | exact ⟨h9, trivial⟩) ?_
            refine bB 18 [0, 1, 2, 3, 4, 5, 6, 7, 8, 9, 10, 11, 12, 13, 14, 15, 16] [(17, [], true, 0)] (.cons ?_ (.nil))
            refine ⟨_, [6], true, rfl, rfl, stepOp_pst rfl (show 1 < 2 from by decide) ?_⟩
            refine xs_done ?_
          all_goals
            repeat' (first | refine yo ?_ ?_ | refine yw ?_ ?_ | refine yk ?_ ?_ | exact trivial | with_reducible refine wA ?_ ?_ | refine ys ?_ ?_ | refine xs_done ?_ | refine yl ?_ ?_ | refine w8 ?_ | refine w9 ?_ | refine w1 ?_ | refine w2 ?_ | refine w3 ?_ | refine w4 ?_ | refine w5 ?_ | refine w6 ?_ | refine w7 ?_ | refine yo0 ?_ ?_ | refine yw0 ?_ ?_ | exact qq | fail)
            rw [show IntKind.i64.wrap (((2 : Nat) : Int) + 1) = ((3 : Nat) : Int) from w64 (by decide) (by decide)]
            exact kloop_next (st' := ⟨TL7 (PPx x0 x1 x2 x3 x4 x5) F (2 + 1), RL7 t e F N8 d0 d1 [rQ x0 x1 x2 (.lsl 7 0 (2 + 1)), oRow cPr 2 (2 + 1) (fun a => scS (lF (0, 0) [x3, x4, x5] a) 1)]⟩) (2 - 2) (can_rowsv [0, 1, 2, 3, 4, 5, 6, 9] (k0_sel hk rfl) rfl (.cons rfl (RowEq.cl (rTy_cl t)) (.cons rfl (RowEq.cl (rXE_cl e)) (.cons rfl (RowEq.cl (rRm_cl _ _)) (.cons rfl (RowEq.cl (o_cl cIn_cl _ _ _)) (.cons rfl (rU_eq (l := 5) (k' := d0.ne) rfl rfl rfl) (.cons rfl (RowEq.cl (o_cl cN3_cl _ _ _)) (.cons rfl (rQ_eq (l := 9) (k' := 3) rfl rfl rfl rfl) (.cons rfl (o_eq cPr_cl2 (Nat.le_refl _) (fun a ha b hb => by have hb : b < 2 := hb; have ha : a < 3 := ha; rcases (by omega : a = 0 ∨ a = 1 ∨ a = 2) with rfl | rfl | rfl <;> rcases (by omega : b = 0 ∨ b = 1) with rfl | rfl <;> rfl)) .nil)))))))) tmq) (by decide) (.inr ⟨2, by decide, rfl, rfl⟩)
        · clear hi3
          have hvE : EOk 4 t e := he
          have kM := measured_c 32 e he.bd he.lit (he.vl 32 (by omega))
          repeat' (first | refine yo ?_ ?_ | refine yw ?_ ?_ | refine yk ?_ ?_ | exact trivial | with_reducible refine wA ?_ ?_ | refine ys ?_ ?_ | refine xs_done ?_ | refine yl ?_ ?_ | (refine pop_callc [] rfl rfl rfl rfl rfl rfl (fun _ h => by cases h) (kM) (args_cl _ rfl) ?_; rintro _ rfl) | refine w8 ?_ | refine w9 ?_ | refine w1 ?_ | refine w2 ?_ | refine w3 ?_ | refine w4 ?_ | refine w5 ?_ | refine w6 ?_ | refine w7 ?_ | refine yo0 ?_ ?_ | refine yw0 ?_ ?_ | exact qq | fail)
          obtain ⟨ne, ef, hde⟩ : ∃ ne ef, d0 = ⟨2, n_w, tR, 0, ne, ef, .nil, 0, 0, 0⟩ := ⟨_, _, hd0.eq⟩
          have hlm : (N8.map msI).length = 8 := by rw [List.length_map, hl8]
          have hx3 := hv.hx3 rfl
          have hx4 := hv.hx4 rfl
          have hx5 := hv.hx5 rfl
          have eE2 := valEval_c (N8.map msI) [msD d0, d1] (PPy x0 x1 x2 x3 x4 x5) ⟨by omega, by show 2 ≤ 1000000000; omega, by show 2 ≤ 1000000000; omega, fun x hx => by
            obtain ⟨y, hy, rfl⟩ := List.mem_map.1 hx
            have hu := uh_bd y.nm
            have := okR_bd (lit_at (hD8.dl y hy) hu.1 hu.2).2.1
            exact ⟨by show -9223372036854775808 ≤ (scS (y.n, y.d) (uhN y.nm)).1; omega, by show (scS (y.n, y.d) (uhN y.nm)).1 ≤ 9223372036854775807; omega⟩, fun d hd => by
            simp only [List.mem_cons, List.not_mem_nil, or_false] at hd
            rcases hd with rfl | rfl
            · exact ⟨by show d0.ne ≤ 1000000000; have := hd0.ne; omega, fun i hi => by
                have := okR_bd (lit_at (hd0.dl i hi).1 (k := -1) (by omega) (by omega)).2.1
                exact ⟨by show -9223372036854775808 ≤ (scS (d0.ef i).2 (-1)).1; omega, by show (scS (d0.ef i).2 (-1)).1 ≤ 9223372036854775807; omega⟩⟩
            · exact ⟨by have := hd1.ne; omega, hd1.ef⟩, fun p hp => by
            simp only [PPy, List.mem_cons, List.not_mem_nil, or_false] at hp
            rcases hp with rfl | rfl
            · exact hP _ (List.Mem.head _)
            · refine ⟨by show 3 ≤ 1000000000; omega, fun i hi => ?_⟩
              have hi : i < 3 := hi
              have hm : lF (0, 0) [x3, x4, x5] i ∈ decL := by
                rcases (by omega : i = 0 ∨ i = 1 ∨ i = 2) with rfl | rfl | rfl
                · exact hx3
                · exact hx4
                · exact hx5
              have := okR_bd (lit_at hm (k := 1) (by omega) (by omega)).2.1
              exact ⟨by show -9223372036854775808 ≤ (scS (lF (0, 0) [x3, x4, x5] i) 1).1; omega, by show (scS (lF (0, 0) [x3, x4, x5] i) 1).1 ≤ 9223372036854775807; omega⟩⟩ (meaS 32 e) (mea_bd 32 e he.bd he.lit (he.vl 32 (by omega)))
          have hdim := fun F' hF' => dims_plain (F' := F') hD8 (d0 := d0) (d1 := d1) (by rw [hd0.eq]) (by rw [hd0.eq]) (by rw [hd1.eq]) (by rw [hd1.eq]) hd0.dl (f0 := lF (0, 0) [x0, x1, x2]) (f1 := lF (0, 0) [x3, x4, x5]) (fun i hi => by
            rcases (by omega : i = 0 ∨ i = 1 ∨ i = 2) with rfl | rfl | rfl
            · exact hx3
            · exact hx4
            · exact hx5) hvE (by omega) hth hF hF'
          obtain ⟨F', hF'⟩ : ∃ F', F' = evalS (N8.map msI) [msD d0, d1] (PPy x0 x1 x2 x3 x4 x5) (meaS 32 e) := ⟨_, rfl⟩
          have hdm := hdim F' hF'
          rw [← hF'] at eE2
          clear hdim hF' hF eE hP kM hv
          show POps _ _ _ _ (_ :: _) _ _
          refine ocanD (st' := ⟨[(4, .ptr 0 0 0), (12, .ptr 1 0 0), (13, vi F.2), (187, vX (meaS 32 e)), (188, vIns (N8.map msI)), (189, vDs [msD d0, d1]), (190, vPas (PPy x0 x1 x2 x3 x4 x5))], [rTy t, rRm F.1.1 F.1.2]⟩) ((can_frz [3, 4, 5, 6, 7] (by intro l hl; rw [show Γ.k0 = 0 from hk]; exact Nat.zero_le _) rfl (tm := [(4, .ptr 0 0 0), (12, .ptr 2 0 0), (13, vi F.2), (187, vX (meaS 32 e)), (188, vIns (N8.map msI)), (189, vDs [msD d0, d1]), (190, vPas (PPy x0 x1 x2 x3 x4 x5))]) (by exact ⟨.inl rfl, .inl rfl, .inl rfl, .inl rfl, .inr (argM hl8 rfl (by simp)), .inr (argU hde rfl rfl (by simp) (by simp)), .inr (argQ rfl rfl (by simp) (by simp)), trivial⟩)).trans (can_rowsv [0, 2] (k0_sel hk rfl) rfl (.cons rfl (RowEq.cl (rTy_cl t)) (.cons rfl (RowEq.cl (rRm_cl _ _)) .nil)) (by exact ⟨PEq.refl _, PEq.refl _, PEq.refl _, PEq.cl _ (clB_spec _ rfl), PEq.refl _, PEq.refl _, PEq.refl _, trivial⟩))) ?_
          repeat' (first | refine yo ?_ ?_ | refine yw ?_ ?_ | refine yk ?_ ?_ | exact trivial | with_reducible refine wA ?_ ?_ | refine ys ?_ ?_ | refine xs_done ?_ | refine yl ?_ ?_ | refine z1 eE2 ?_ | refine z2 eE2 ?_ | refine z3 eE2 ?_ | refine z4 eE2 ?_ | refine z5 eE2 ?_ | refine w8 ?_ | refine w9 ?_ | refine w1 ?_ | refine w2 ?_ | refine w3 ?_ | refine w4 ?_ | refine w5 ?_ | refine w6 ?_ | refine w7 ?_ | refine yo0 ?_ ?_ | refine yw0 ?_ ?_ | exact qq | fail)
          refine pcond (b := decide (F.2 = 4 ∨ F'.2 = 4)) ?_ ?_ ?_
          · refine eqB ?_
            show (bif F.2 == 4 then true else F'.2 == 4) = _
            rw [beqd3, beqd3]
            by_cases h1 : F.2 = 4 <;> by_cases h2 : F'.2 = 4 <;> simp [h1, h2]
          · intro hc
            repeat' (first | refine yo ?_ ?_ | refine yw ?_ ?_ | refine yk ?_ ?_ | exact trivial | with_reducible refine wA ?_ ?_ | refine ys ?_ ?_ | refine xs_done ?_ | refine yl ?_ ?_ | refine z1 cs ?_ | refine z2 cs ?_ | refine z3 cs ?_ | refine z4 cs ?_ | refine z5 cs ?_ | refine w8 ?_ | refine w9 ?_ | refine w1 ?_ | refine w2 ?_ | refine w3 ?_ | refine w4 ?_ | refine w5 ?_ | refine w6 ?_ | refine w7 ?_ | refine yo0 ?_ ?_ | refine yw0 ?_ ?_ | exact qq | fail)
            first | exact kretv rfl ⟨trivial, trivial⟩ rfl rfl | (refine xdone ?_; exact kretv rfl ⟨trivial, trivial⟩ rfl rfl)
          · intro hc
            replace hc := of_decide_eq_false hc
            obtain ⟨q1, q2⟩ := hdm (fun h => hc (.inl h)) (fun h => hc (.inr h))
            repeat' (first | refine yo ?_ ?_ | refine yw ?_ ?_ | refine yk ?_ ?_ | exact trivial | with_reducible refine wA ?_ ?_ | refine ys ?_ ?_ | refine xs_done ?_ | refine yl ?_ ?_ | refine w8 ?_ | refine w9 ?_ | refine w1 ?_ | refine w2 ?_ | refine w3 ?_ | refine w4 ?_ | refine w5 ?_ | refine w6 ?_ | refine w7 ?_ | refine yo0 ?_ ?_ | refine yw0 ?_ ?_ | exact qq | fail)
            refine pcond (b := false) (eqB ?_) (fun h => by cases h) fun _ => ?_
            · show (F.2 != F'.2) = false
              rw [q1]; simp
            have k2 : ((F.2 != 0) == false) = true → PureC G.P 30 [vr F.1.1 F.1.2, vi t.h] (fun r => r = vr (scS F.1 t.h).1 (scS F.1 t.h).2) := fun h => by
              have h0 : F.2 = 0 := by simpa using h
              have hb : -1000 ≤ t.h ∧ t.h ≤ 1000 := by omega
              exact scaled_c F.1.1 F.1.2 t.h (q2 h0).1 hb.1 hb.2
            repeat' (first | refine yo ?_ ?_ | refine yw ?_ ?_ | refine yk ?_ ?_ | exact trivial | with_reducible refine wA ?_ ?_ | refine ys ?_ ?_ | refine xs_done ?_ | refine yl ?_ ?_ | refine xs_start (id := 34) true [.take 0, .take 1, .take 2, .take 3, .take 4, .take 5, .take 6, .take 7, .one 8, .take 9, .take 10, .take 11, .one 12, .take 13, .take 14] 0 rfl rfl (by kernel_rfl) ?_ | refine xs_one (ch := []) rfl rfl rfl (pst_callgv rfl rfl rfl rfl rfl rfl k2 ?_ rfl rfl rfl ?_) | exact qcg | refine z1 cs ?_ | refine z2 cs ?_ | refine z3 cs ?_ | refine z4 cs ?_ | refine z5 cs ?_ | refine w8 ?_ | refine w9 ?_ | refine w1 ?_ | refine w2 ?_ | refine w3 ?_ | refine w4 ?_ | refine w5 ?_ | refine w6 ?_ | refine w7 ?_ | refine yo0 ?_ ?_ | refine yw0 ?_ ?_ | exact qq | fail)
            refine xdone ?_
            refine kretv rfl ⟨trivial, trivial⟩ rfl (eqB ?_)
            by_cases h0 : F.2 = 0
            · rw [(q2 h0).2, h0]; simp
            · have h1 : (F.2 != 0) = true := by simpa using h0
              rw [h1]; rfl
theorem dims_walk (v : Value) (l : List Int) (w : World) (h : IntsAt w v l) (hG : GOk (fun b => b < w.heap.size) w) : Calls G.P 7 #[v] w fun e w' => e = .returned (.bool true) ∧ Ext w w' := by
  have hl : l.length ≤ 9223372036854775807 := by obtain ⟨_, _, _, _, h, _⟩ := h; exact h
  exact law_of (vs := [v]) (dims_c l.length _ hl) ⟨h.rel _, trivial⟩ hG
open Go.ChangeShapes Go.WideShapes Go.ChangeAt Go.RowKit Go.Joins
open Go.ChangeMaps (open_string shut_string)
theorem valueDimensions_own : ownKnob Tryd.prog.godebug = none := by kernel_rfl
theorem valueDimensions_laidOut : laidOutB Tryd.prog = true := by kernel_rfl
theorem valueDimensions_bd {n : Int} (h : (Lit.int .i64 n).wf = true) : -9223372036854775808 ≤ n ∧ n ≤ 9223372036854775807 := bounds_i64 h
set_option maxRecDepth 100000 in
theorem valueDimensions_lifted (os : Os) (started : os.Started) (H : Type) (enc : TypeId × Value → H) :
    ReturnsInHanded {} Tryd.checked os 7 .any (fun w args => (Rows.valueDimensionsSpec.pre enc Tryd.prog Tryd.f7 [] false w args ∧ laidMetH Tryd.prog [("payroll/calendar.lengths", Rows.laid_payroll_calendar_lengths)] w) ∧ sizedMet enc Tryd.prog Tryd.f7 (OpenSpec.ofChange Rows.valueDimensionsSpec) false w args)
      (Rows.valueDimensionsSpec.post enc Tryd.prog Tryd.f7 false true false false) := by
  refine returnsInHanded_of_change_and (C := Tryd.checked) (X := fun w _ => laidMetH Tryd.prog [("payroll/calendar.lengths", Rows.laid_payroll_calendar_lengths)] w) (fun _ _ _ hh h => h.of_heap hh) valueDimensions_own started (by kernel_rfl) Tryd.func7
    (ChangeSpec.witness_shaped (enc := enc) (C := Tryd.checked) (os := os) (X := fun w _ => laidMetH Tryd.prog [("payroll/calendar.lengths", Rows.laid_payroll_calendar_lengths)] w) false (World.doorLaid Tryd.prog 400 os) #[.slice none 0 0] 8 rfl (World.shaped_of_RefB (by kernel_rfl) (by kernel_rfl)) (by kernel_rfl) (by kernel_rfl) (by kernel_rfl) (door_met os _)) ?_
  intro W base args ds gs before hval0 hW hcnd hsz hL _
  have hval : ∀ (j : Nat) t v, Tryd.f7.params[j]? = some t → args[j]? = some v → Value.okWide Tryd.prog W .any base t v := hval0
  have hW' := hW
  obtain ⟨p, q, hA0, hV, rfl, hfz, hnd⟩ := hW
  have hA : DataW.TrodAll enc Tryd.prog W 0 (fun _ => true) true Tryd.f7.params.toList args.toList ds p := hA0
  rw [Tryd.params7] at hA hval
  obtain ⟨v0, vs0, d0, ds0, p0, q0, hargs, rfl, rfl, h0, r0⟩ := trodAll_cons hA
  obtain ⟨rfl, rfl, rfl⟩ := trodAll_nil r0
  obtain rfl : args = #[v0] := by cases args; simp_all
  obtain ⟨rfl, rfl⟩ := trodVars_none hV
  have k0 := h0
  have lt0 : ∀ x ∈ p0, x.block < W.heap.size := by obtain ⟨m, hm⟩ := k0; exact DataW.trod_lt m _ _ _ hm
  obtain ⟨a0, len0, cap0, rfl⟩ := okWide_slice Tryd.underlying29 (hval 0 29 v0 rfl rfl)
  obtain ⟨z0, w0⟩ : ∃ zs : List Int, IntsAt W (.slice a0 len0 cap0) zs := by
    obtain ⟨fuel, hf⟩ := h0
    rcases open_ints Tryd.underlying29 Tryd.underlying3 (by kernel_rfl) hf with ⟨hcs, _⟩ | ⟨x, l, c, zs, hcs, _, hl, hm, hz, _, hcell, hwz⟩
    · simp [Value.cells] at hcs
      obtain ⟨rfl, rfl, rfl⟩ := hcs
      exact ⟨[], intsAt_of_row (zs := []) (.inl ⟨rfl, rfl, rfl, rfl⟩)⟩
    · simp [Value.cells] at hcs
      obtain ⟨rfl, rfl, rfl⟩ := hcs
      exact ⟨zs.take _, intsAt_of_row (.inr ⟨_, rfl, hl, hm, by simpa using hz, hcell, hwz⟩)⟩
  clear hA0 hval0
  refine (dims_walk _ z0 W w0 (glo_of hL)).mono fun e W' ⟨he, bel⟩ => ?_
  subst he
  exact ⟨_, rfl, _, _, _, [], _, [], hW', trodAll_mk1 (shut_bool Tryd.underlying4 _), (trodAll_cons_mk (Below.trod valueDimensions_laidOut (by kernel_rfl) (of_decide_eq_true (by kernel_rfl)) k0 bel lt0) trodAll_mk0), rfl, bel.frame _, fun h => by cases h⟩

theorem valueDimensions_row : Rows.ValueDimensionsSaid :=
  OpenClaim.holds_of_wide 7 Tryd.f7 rfl rfl rfl rfl rfl rfl rfl ⟨rfl, rfl, rfl, rfl, rfl⟩ rfl rfl rfl rfl rfl (by kernel_rfl) Tryd.func7 (by kernel_rfl)
    (of_decide_eq_true (by kernel_rfl)) (by unfold Func.isWrapper; first | (rw [if_pos (by decide +kernel)]; kernel_rfl) | (rw [if_neg (by decide +kernel)]; exact ⟨rfl, rfl⟩))
    (fun os started H enc _ => valueDimensions_lifted os started H enc)
set_option maxRecDepth 100000 in
theorem valueDimensions_proved : Rows.ValueDimensionsCardSaid :=
  Claim7.holds_tied_plain_at .later [] [.data] true (true, "79681ba0f93811b419d357366bb2f2afe1925af78223a0a5cee879e9a60a0b40") false
    valueDimensions_row (fun _ h => by cases h) (by kernel_rfl) (fun _ h => by cases h) valueDimensions_row_tie rfl ⟨rfl, rfl⟩ (by kernel_rfl) rfl
    (fun f fn hf hfn => by
      obtain rfl : f = 7 := Option.some.inj ((show Tryd.prog.funcNamed "payroll/payrolllaw22.ValueDimensions" = some 7 by kernel_rfl).symm.trans hf) |>.symm
      obtain rfl : fn = Tryd.f7 := (Option.some.inj (Tryd.func7.symm.trans hfn)).symm
      exact ⟨by kernel_rfl, fun j t ht => by
        rw [Tryd.params7] at ht
        have ht := Array.mem_of_getElem? ht
        have hall : (Tryd.f7.params.all fun u => !Tryd.prog.wantsStandIn u) = true := by kernel_rfl
        rw [Tryd.params7] at hall
        exact (show Tryd.prog.wantsStandIn t = false by simpa using Array.all_eq_true_iff_forall_mem.1 hall t ht)⟩)
    (by kernel_rfl)
#print axioms valueDimensions_proved
end Go.Proofs.YtcghpepighboaaaDoor
