/- depend.Downstream. -/
import Derived.Test.YtcefhgomkehokaaA12
import Derived.Test.YtcefhgomkehokaaA11
import Derived.Test.YtcefhgomkehokaaA10
import Derived.Test.YtcefhgomkehokaaA08
set_option linter.unusedSimpArgs false
set_option linter.unusedVariables false
set_option maxRecDepth 100000
namespace Go.Proofs.Ytcefhgomkehokaa
open Go.MapKept
def dnStep (L : List (Int × List Int)) (nx : Int) (out : List Int) (i : Int) : List Int := if ¬ i ∈ out ∧ nx ∈ sget L i then out ++ [i] else out
def dnIn (L : List (Int × List Int)) (nx : Int) (out N : List Int) : List Int := N.foldl (dnStep L nx) out
theorem dnIn_snoc {L : List (Int × List Int)} {nx : Int} {out N : List Int} {i : Int} : dnIn L nx out (N ++ [i]) = dnStep L nx (dnIn L nx out N) i := by
  unfold dnIn; rw [List.foldl_append]; rfl
def dnF (N : List Int) (L : List (Int × List Int)) : Nat → Nat → List Int → List Int
  | 0, _, out => out
  | f + 1, p, out => if p < out.length then dnF N L f (p + 1) (dnIn L (lF 0 out p) out N) else out
def dn0 (l : List Df) (s : ByteArray) (N : List Int) : List Int := N.filter fun x => mentS (lF dD l x.toNat).body s
def dnS (l : List Df) (day : Int) (s : ByteArray) : List Int := dnF (nodS l day) (mapS l day) ((nodS l day).length + 1) 0 (dn0 l s (nodS l day))
def DwnS (nm : ByteArray) (l : List Df) (day : Int) (s : ByteArray) : List Int := if gErr nm l day ≠ 0 then [] else (nodS l day).filter fun x => decide (x ∈ dnS l day s)
structure InvN (N out : List Int) : Prop where
  nd : out.Nodup
  sub : ∀ x, x ∈ out → x ∈ N
theorem InvN.len {N out : List Int} (h : InvN N out) : out.length ≤ N.length := nd_len h.nd h.sub
theorem InvN.snoc {N out : List Int} {i : Int} (h : InvN N out) (hi : i ∈ N) (hno : ¬ i ∈ out) : InvN N (out ++ [i]) := ⟨by
  rw [List.nodup_append]
  exact ⟨h.nd, by simp, fun a ha b hb => by
    have : b = i := by simpa using hb
    subst this
    exact fun e => hno (e ▸ ha)⟩, fun x hx => by
  rcases List.mem_append.1 hx with hx | hx
  · exact h.sub x hx
  · rw [List.mem_singleton.1 hx]; exact hi⟩
theorem InvN.step {N out : List Int} {L : List (Int × List Int)} {nx i : Int} (h : InvN N out) (hi : i ∈ N) : InvN N (dnStep L nx out i) := by
  unfold dnStep
  split
  · rename_i hc; exact h.snoc hi hc.1
  · exact h
theorem InvN.fold {N : List Int} {L : List (Int × List Int)} {nx : Int} : ∀ (A out : List Int), InvN N out → (∀ x, x ∈ A → x ∈ N) → InvN N (dnIn L nx out A)
  | [], out, h, _ => h
  | a :: A, out, h, hA => InvN.fold A (dnStep L nx out a) (h.step (hA a (List.mem_cons_self ..))) (fun x hx => hA x (List.mem_cons_of_mem _ hx))
theorem reached_p (out : List Int) : PrdC1 48 (nthP [cLis out]) (fun x => !decide (x ∈ out)) := ⟨trivial, fun x => by
  refine pure_of (G := G.toPg) (fn := Try.f48) Try.func48 rfl rfl rfl ?_; intro Γ hk
  repeat' (first | refine yo ?_ ?_ | refine yw ?_ ?_ | refine yk ?_ ?_ | exact trivial | with_reducible refine wA ?_ ?_ | refine ys ?_ ?_ | refine xs_done ?_ | refine yl ?_ ?_ | refine w8 ?_ | refine w9 ?_ | refine w1 ?_ | refine w2 ?_ | refine w3 ?_ | refine w4 ?_ | refine w5 ?_ | refine w6 ?_ | refine w7 ?_ | refine yo0 ?_ ?_ | refine yw0 ?_ ?_ | exact qq | fail)
  refine pop_lookvB mapIBd false x rfl rfl rfl rfl rfl rfl ?_
  rw [show (bif false then PV.tup 2 (nthP [.val (bV ((mget (lsM out) x).getD 0)), vb (mget (lsM out) x).isSome]) else .val (bV ((mget (lsM out) x).getD 0))) = vb (decide (x ∈ out)) from lsM_b out x]
  repeat' (first | refine yo ?_ ?_ | refine yw ?_ ?_ | refine yk ?_ ?_ | exact trivial | with_reducible refine wA ?_ ?_ | refine ys ?_ ?_ | refine xs_done ?_ | refine yl ?_ ?_ | refine w8 ?_ | refine w9 ?_ | refine w1 ?_ | refine w2 ?_ | refine w3 ?_ | refine w4 ?_ | refine w5 ?_ | refine w6 ?_ | refine w7 ?_ | refine yo0 ?_ ?_ | refine yw0 ?_ ?_ | exact qq | fail)
  exact kretv rfl ⟨trivial, trivial⟩ rfl rfl⟩
theorem vm1 {l : Nat} {c : PV} : ∀ i, i < 1 → ∀ j, j < 1 → VM l c ((cM1 (.mref l)).f i j) ((cM1 (.vmap c)).f i j) := fun i hi j hj => VM.ref
theorem gErr_chk {nm : ByteArray} {l : List Df} {day : Int} (h : gErr nm l day = 0) : chkE nm l day = 0 := by
  unfold gErr at h
  by_cases h1 : chkE nm l day ≠ 0
  · rw [if_pos h1] at h; exact absurd h h1
  · exact Decidable.not_not.1 h1
theorem dn0_snoc {l : List Df} {s : ByteArray} {A : List Int} {x : Int} : dn0 l s (A ++ [x]) = dn0 l s A ++ if mentS (lF dD l x.toNat).body s = true then [x] else [] := by
  unfold dn0
  rw [List.filter_append, List.filter_cons, List.filter_nil]
theorem nodS_nd (l : List Df) (day : Int) : (nodS l day).Nodup := by
  have h := (actN_asc l day l.length).filter (fun x => comp (lF dD l x.toNat))
  exact h.imp (fun hab => by omega)
theorem nodS_in {l : List Df} {day x : Int} (h : x ∈ nodS l day) : 0 ≤ x ∧ x < l.length ∧ comp (lF dD l x.toNat) = true := by
  obtain ⟨h1, h2⟩ := List.mem_filter.1 h
  have := actL_in x h1
  exact ⟨this.1, this.2, h2⟩
theorem not_not_dec {N out : List Int} : (N.filter fun x => !(!decide (x ∈ out))) = N.filter fun x => decide (x ∈ out) := by
  congr 1; funext x; rw [Bool.not_not]
set_option maxHeartbeats 16000000 in
theorem Downstream_c (nm : ByteArray) (l : List Df) (day : Int) (s : ByteArray) (h : AgO nm l) (hl : l.length ≤ 900000) : PureC G.P 29 [vA nm l, vi day, vs s] (fun r => r = sV (DwnS nm l day s)) := by
  by_cases he : gErr nm l day = 0
  · have cg := newGraph_d nm l day h (by omega) he
    have hNl := nodS_len l day
    have hvd := chk_valid (gErr_chk he)
    have hNnd := nodS_nd l day
    have hNin := fun x (hx : x ∈ nodS l day) => nodS_in hx
    have hLb : ∀ e, e ∈ mapS l day → e.2.length ≤ 1000000 := fun e he => Nat.le_trans (mapS_len l day e he) (by omega)
    have hX : DwnS nm l day s = (nodS l day).filter fun x => decide (x ∈ dnS l day s) := by unfold DwnS; rw [if_neg (fun hh => hh he)]
    have hD0 : dn0 l s (nodS l day) = [] → dnS l day s = [] := fun e => by unfold dnS; rw [e, dnF]; rfl
    refine pure_of (G := G.toPg) (fn := Try.f29) Try.func29 rfl rfl rfl ?_; intro Γ hk
    repeat' (first | refine yo ?_ ?_ | refine yw ?_ ?_ | refine yk ?_ ?_ | exact trivial | with_reducible refine wA ?_ ?_ | refine ys ?_ ?_ | refine xs_done ?_ | refine yl ?_ ?_ | refine w8 ?_ | refine w9 ?_ | refine w1 ?_ | refine w2 ?_ | refine w3 ?_ | refine w4 ?_ | refine w5 ?_ | refine w6 ?_ | refine w7 ?_ | refine yo0 ?_ ?_ | refine yw0 ?_ ?_ | exact qq | fail)
    refine pop_rowsc [] rfl rfl rfl rfl rfl rfl .nil cg (by exact ⟨PEq.cl (vA nm l) (clA ⟨trivial, trivial, trivial⟩), PEq.refl _, trivial⟩) ?_
    rintro r rows ⟨k, hk2, rfl, rfl⟩
    generalize hN : nodS l day = N at *
    generalize hL : mapS l day = L at *
    rcases k with _ | k
    · refine ⟨_, _, rfl, ⟨v_cl c1_cl _ _ _, trivial⟩, rfl, ?_⟩
      repeat' (first | refine yo ?_ ?_ | refine yw ?_ ?_ | refine yk ?_ ?_ | exact trivial | with_reducible refine wA ?_ ?_ | refine ys ?_ ?_ | refine xs_done ?_ | refine yl ?_ ?_ | refine w8 ?_ | refine w9 ?_ | refine w1 ?_ | refine w2 ?_ | refine w3 ?_ | refine w4 ?_ | refine w5 ?_ | refine w6 ?_ | refine w7 ?_ | refine yo0 ?_ ?_ | refine yw0 ?_ ?_ | exact qq | fail)
      refine pop_mkmapB kI rfl rfl rfl rfl rfl ?_
      repeat' (first | refine yo ?_ ?_ | refine yw ?_ ?_ | refine yk ?_ ?_ | exact trivial | with_reducible refine wA ?_ ?_ | refine ys ?_ ?_ | refine xs_done ?_ | refine yl ?_ ?_ | refine w8 ?_ | refine w9 ?_ | refine w1 ?_ | refine w2 ?_ | refine w3 ?_ | refine w4 ?_ | refine w5 ?_ | refine w6 ?_ | refine w7 ?_ | refine yo0 ?_ ?_ | refine yw0 ?_ ?_ | exact qq | fail)
      refine ploopN 1 ?_
      repeat' (first | refine yo ?_ ?_ | refine yw ?_ ?_ | refine yk ?_ ?_ | exact trivial | with_reducible refine wA ?_ ?_ | refine ys ?_ ?_ | refine xs_done ?_ | refine yl ?_ ?_ | refine w8 ?_ | refine w9 ?_ | refine w1 ?_ | refine w2 ?_ | refine w3 ?_ | refine w4 ?_ | refine w5 ?_ | refine w6 ?_ | refine w7 ?_ | refine yo0 ?_ ?_ | refine yw0 ?_ ?_ | exact qq | fail)
      refine ploopN 1 ?_
      repeat' (first | refine yo ?_ ?_ | refine yw ?_ ?_ | refine yk ?_ ?_ | exact trivial | with_reducible refine wA ?_ ?_ | refine ys ?_ ?_ | refine xs_done ?_ | refine yl ?_ ?_ | refine w8 ?_ | refine w9 ?_ | refine w1 ?_ | refine w2 ?_ | refine w3 ?_ | refine w4 ?_ | refine w5 ?_ | refine w6 ?_ | refine w7 ?_ | refine yo0 ?_ ?_ | refine yw0 ?_ ?_ | exact qq | fail)
      refine ocan0 (st' := ⟨[(82, .val (.slice none 0 0)), (83, .clo 48 1 (nthP [cLis []]))], []⟩) ((((can_rowsv [3, 4] (tm := [(82, .val (.slice none 0 0)), (83, .clo 48 1 (nthP [.ptr 1 0 0]))]) (rows := [mRowB kI (lsM []), cM1 (.mref 0)]) (k0_sel hk rfl) rfl (.cons rfl m_eqB (.cons rfl (cM1_eq (PEq.refl _)) .nil)) (by exact ⟨PEq.refl _, PEq.clo1 (PEq.refl _), trivial⟩)).trans (can_vmap (one := false) (n := 0) (f := fun _ _ => .val (mVB kI (lsM []))) 0 (by rw [hk]; exact Nat.zero_le _) rfl trivial (tm := [(82, .val (.slice none 0 0)), (83, .clo 48 1 (nthP [.ptr 1 0 0]))]) (rows := [deadR, cM1 (.vmap (.val (mVB kI (lsM []))))]) (by exact ⟨VM.refl, VM.refl, trivial⟩) (by exact ⟨.inl rfl, .inr ⟨trivial, rfl, rfl, rfl, vm1⟩, trivial⟩))).trans (can_frz [1] (by intro l hl; rw [hk]; exact Nat.zero_le _) rfl (tm := [(82, .val (.slice none 0 0)), (83, .clo 48 1 (nthP [cLis []]))]) (by exact ⟨.inl rfl, .inr (argClo1 (argPtr (r := cM1 (.vmap (.val (mVB kI (lsM []))))) rfl trivial (List.Mem.head _) (Nat.le_refl _) rfl (fun a ha b hb => argCl trivial))), trivial⟩))).trans (can_rowsv [] (k0_sel hk rfl) rfl .nil (by exact ⟨PEq.refl _, PEq.cl _ (reached_p []).cl, trivial⟩))) ?_
      refine pop_callc [] rfl rfl rfl rfl rfl rfl (fun _ h => by cases h) (deleteFunc10_c _ _ _ (reached_p []) (lF 0 [])) ⟨argNil, argCl (reached_p []).cl, trivial⟩ ?_
      rintro _ rfl
      repeat' (first | refine yo ?_ ?_ | refine yw ?_ ?_ | refine yk ?_ ?_ | exact trivial | with_reducible refine wA ?_ ?_ | refine ys ?_ ?_ | refine xs_done ?_ | refine yl ?_ ?_ | refine w8 ?_ | refine w9 ?_ | refine w1 ?_ | refine w2 ?_ | refine w3 ?_ | refine w4 ?_ | refine w5 ?_ | refine w6 ?_ | refine w7 ?_ | refine yo0 ?_ ?_ | refine yw0 ?_ ?_ | exact qq | fail)
      refine kretv rfl ⟨trivial, trivial⟩ rfl ?_
      rw [hX, List.length_eq_zero_iff.1 hk2]; rfl
    · refine ⟨_, _, rfl, ⟨v_cl c1_cl _ _ _, trivial⟩, rfl, ?_⟩
      repeat' (first | refine yo ?_ ?_ | refine yw ?_ ?_ | refine yk ?_ ?_ | exact trivial | with_reducible refine wA ?_ ?_ | refine ys ?_ ?_ | refine xs_done ?_ | refine yl ?_ ?_ | refine w8 ?_ | refine w9 ?_ | refine w1 ?_ | refine w2 ?_ | refine w3 ?_ | refine w4 ?_ | refine w5 ?_ | refine w6 ?_ | refine w7 ?_ | refine yo0 ?_ ?_ | refine yw0 ?_ ?_ | exact qq | fail)
      refine pop_mkmapB kI rfl rfl rfl rfl rfl ?_
      repeat' (first | refine yo ?_ ?_ | refine yw ?_ ?_ | refine yk ?_ ?_ | exact trivial | with_reducible refine wA ?_ ?_ | refine ys ?_ ?_ | refine xs_done ?_ | refine yl ?_ ?_ | refine w8 ?_ | refine w9 ?_ | refine w1 ?_ | refine w2 ?_ | refine w3 ?_ | refine w4 ?_ | refine w5 ?_ | refine w6 ?_ | refine w7 ?_ | refine yo0 ?_ ?_ | refine yw0 ?_ ?_ | exact qq | fail)
      refine pcan ((can_virt (vRow c1 1 0 (lF 0 [])) rfl).trans (can_rowsv [0, 1, 2, 3, 4, 5] (tm := [(2, vs s), (3, .ptr 0 0 0), (7, .ptr 2 0 0), (9, .ptr 4 0 0), (10, slP (0) 5), (26, .lsl 1 0 (k + 1)), (27, vi ((k + 1 : Nat) : Int)), (28, vi ((0 : Nat) : Int))]) (rows := [rA1 nm l, vRow c1 1 (k + 1) (lF 0 N), cG (.lsl 1 0 (k + 1)) (.vmap (cS L)), mRowB kI (lsM ([])), cM1 (.mref 3), vRow c1 1 (0) (lF 0 ([]))]) (k0_sel hk rfl) rfl (.cons rfl (RowEq.cl (rA1_cl _ _)) (.cons rfl (RowEq.cl (v_cl c1_cl _ _ _)) (.cons rfl (cG_eq (PEq.refl _) (PEq.refl _)) (.cons rfl m_eqB (.cons rfl (cM1_eq (PEq.refl _)) (.cons rfl (RowEq.cl (v_cl c1_cl _ _ _)) .nil)))))) tmq)) ?_
      refine ploop (fun q st => ∃ (i m : Nat) (out : List Int), i ≤ N.length ∧ out = dn0 l s (N.take i) ∧ out.length = m ∧ q = N.length - i ∧ st = ⟨[(2, vs s), (3, .ptr 0 0 0), (7, .ptr 2 0 0), (9, .ptr 4 0 0), (10, slP (m) 5), (26, .lsl 1 0 (k + 1)), (27, vi ((k + 1 : Nat) : Int)), (28, vi i)], [rA1 nm l, vRow c1 1 (k + 1) (lF 0 N), cG (.lsl 1 0 (k + 1)) (.vmap (cS L)), mRowB kI (lsM (out)), cM1 (.mref 3), vRow c1 1 (m) (lF 0 (out))]⟩) N.length ⟨0, 0, [], Nat.zero_le _, by rw [List.take_zero]; rfl, rfl, rfl, rfl⟩ ?_
      rintro _ _ ⟨i, m, out, hi, ho, hm, rfl, rfl⟩
      have hw1 : IntKind.i64.wrap ((i : Int) + 1) = ((i + 1 : Nat) : Int) := w64 (by omega) (by omega)
      have hmb : m ≤ 1000000 := by rw [← hm, ho]; exact Nat.le_trans (List.length_filter_le _ _) (by rw [List.length_take]; omega)
      rcases m with _ | m
      · --
        repeat' (first | refine yo ?_ ?_ | refine yw ?_ ?_ | refine yk ?_ ?_ | exact trivial | with_reducible refine wA ?_ ?_ | refine ys ?_ ?_ | refine xs_done ?_ | refine yl ?_ ?_ | refine w8 ?_ | refine w9 ?_ | refine w1 ?_ | refine w2 ?_ | refine w3 ?_ | refine w4 ?_ | refine w5 ?_ | refine w6 ?_ | refine w7 ?_ | refine yo0 ?_ ?_ | refine yw0 ?_ ?_ | exact qq | fail)
        refine pcond rfl ?_ ?_ <;> intro hc
        · have hc : i < k + 1 := by have := of_decide_eq_true hc; omega
          have hT : N.take (i + 1) = N.take i ++ [lF 0 N i] := by
            unfold lF
            rw [List.take_add_one, List.getD_eq_getElem?_getD, List.getElem?_eq_getElem (by omega)]; rfl
          have hxN : lF 0 N i ∈ N := by rw [lF_get' (by omega)]; exact List.getElem_mem (by omega)
          have hx := hNin _ hxN
          have hx3 : (lF 0 N i).toNat < l.length := by omega
          have hbo := h.body hvd hx3 hx.2.2
          have hz : 0 + ((i : Nat) : Int).toNat = i := by omega
          have cm := mentions_c (lF dD l (lF 0 N (0 + ((i : Nat) : Int).toNat)).toNat).body s (by rw [hz]; exact hbo.1) (by rw [hz]; exact hbo.2)
          rw [show mentS (lF dD l (lF 0 N (0 + ((i : Nat) : Int).toNat)).toNat).body s = mentS (lF dD l (lF 0 N i).toNat).body s by rw [hz]] at cm
          have hS := dn0_snoc (l := l) (s := s) (A := N.take i) (x := lF 0 N i)
          rw [← hT, ← ho] at hS
          have hnot : ¬ lF 0 N i ∈ out := fun hh => by
            rw [ho] at hh
            have h1 := (List.mem_filter.1 hh).1
            have h2 : (N.take i ++ [lF 0 N i]).Nodup := hT ▸ hNnd.sublist (List.take_sublist _ _)
            rw [List.nodup_append] at h2
            exact h2.2.2 _ h1 _ (List.mem_singleton.2 rfl) rfl
          cases hme : mentS (lF dD l (lF 0 N i).toNat).body s with
          | false =>
            rw [hme] at cm
            rw [hme, if_neg (by decide), List.append_nil] at hS
            repeat' (first | refine yo ?_ ?_ | refine yw ?_ ?_ | refine yk ?_ ?_ | exact trivial | with_reducible refine wA ?_ ?_ | refine ys ?_ ?_ | refine xs_done ?_ | refine yl ?_ ?_ | (rw [hz]; exact ⟨hx.1, hx.2.1⟩) | (rw [hz]; exact hx3) | refine z1 cm ?_ | refine z2 cm ?_ | refine z3 cm ?_ | refine z4 cm ?_ | refine z5 cm ?_ | refine w8 ?_ | refine w9 ?_ | refine w1 ?_ | refine w2 ?_ | refine w3 ?_ | refine w4 ?_ | refine w5 ?_ | refine w6 ?_ | refine w7 ?_ | refine yo0 ?_ ?_ | refine yw0 ?_ ?_ | exact qq | fail)
            rw [hw1]
            exact kloop_next (st' := ⟨[(2, vs s), (3, .ptr 0 0 0), (7, .ptr 2 0 0), (9, .ptr 4 0 0), (10, slP (0) 5), (26, .lsl 1 0 (k + 1)), (27, vi ((k + 1 : Nat) : Int)), (28, vi ((i + 1 : Nat) : Int))], [rA1 nm l, vRow c1 1 (k + 1) (lF 0 N), cG (.lsl 1 0 (k + 1)) (.vmap (cS L)), mRowB kI (lsM (out)), cM1 (.mref 3), vRow c1 1 (0) (lF 0 (out))]⟩) (N.length - (i + 1)) (can_rowsv [0, 1, 2, 3, 4, 5] (k0_sel hk rfl) rfl (.cons rfl (RowEq.cl (rA1_cl _ _)) (.cons rfl (RowEq.cl (v_cl c1_cl _ _ _)) (.cons rfl (cG_eq (PEq.refl _) (PEq.refl _)) (.cons rfl m_eqB (.cons rfl (cM1_eq (PEq.refl _)) (.cons rfl (RowEq.cl (v_cl c1_cl _ _ _)) .nil)))))) tmq) (by omega) ⟨i + 1, 0, out, by omega, by rw [hS], hm, rfl, rfl⟩
          | true =>
            rw [hme] at cm
            rw [hme, if_pos rfl] at hS
            repeat' (first | refine yo ?_ ?_ | refine yw ?_ ?_ | refine yk ?_ ?_ | exact trivial | with_reducible refine wA ?_ ?_ | refine ys ?_ ?_ | refine xs_done ?_ | refine yl ?_ ?_ | (rw [hz]; exact ⟨hx.1, hx.2.1⟩) | (rw [hz]; exact hx3) | refine z1 cm ?_ | refine z2 cm ?_ | refine z3 cm ?_ | refine z4 cm ?_ | refine z5 cm ?_ | refine w8 ?_ | refine w9 ?_ | refine w1 ?_ | refine w2 ?_ | refine w3 ?_ | refine w4 ?_ | refine w5 ?_ | refine w6 ?_ | refine w7 ?_ | refine yo0 ?_ ?_ | refine yw0 ?_ ?_ | exact qq | fail)
            rw [hz]
            refine pop_msetB (l := 3) mapIBd (lF 0 N i) 1 rfl rfl rfl rfl rfl rfl rfl (by rw [hk]; exact Nat.zero_le _) rfl rfl ?_
            rw [lsM_set hnot]
            repeat' (first | refine yo ?_ ?_ | refine yw ?_ ?_ | refine yk ?_ ?_ | exact trivial | with_reducible refine wA ?_ ?_ | refine ys ?_ ?_ | refine xs_done ?_ | refine yl ?_ ?_ | exact ⟨Nat.le_refl _, (by rw [hk]; exact Nat.le_of_ble_eq_true rfl), Nat.le_of_eq (Nat.zero_add _), (show (_ : Nat) * 8 ≤ 140737488355328 from by omega), (show (_ : Nat) ≤ 9223372036854775807 from by omega)⟩ | refine w8 ?_ | refine w9 ?_ | refine w1 ?_ | refine w2 ?_ | refine w3 ?_ | refine w4 ?_ | refine w5 ?_ | refine w6 ?_ | refine w7 ?_ | refine yo0 ?_ ?_ | refine yw0 ?_ ?_ | exact qq | fail)
            rw [hw1]
            exact kloop_next (st' := ⟨[(2, vs s), (3, .ptr 0 0 0), (7, .ptr 2 0 0), (9, .ptr 4 0 0), (10, slP (0 + 1) 5), (26, .lsl 1 0 (k + 1)), (27, vi ((k + 1 : Nat) : Int)), (28, vi ((i + 1 : Nat) : Int))], [rA1 nm l, vRow c1 1 (k + 1) (lF 0 N), cG (.lsl 1 0 (k + 1)) (.vmap (cS L)), mRowB kI (lsM (out ++ [lF 0 N i])), cM1 (.mref 3), vRow c1 1 (0 + 1) (lF 0 (out ++ [lF 0 N i]))]⟩) (N.length - (i + 1)) (can_rowsv [0, 1, 2, 3, 4, 7] (k0_sel hk rfl) rfl (.cons rfl (RowEq.cl (rA1_cl _ _)) (.cons rfl (RowEq.cl (v_cl c1_cl _ _ _)) (.cons rfl (cG_eq (PEq.refl _) (PEq.refl _)) (.cons rfl m_eqB (.cons rfl (cM1_eq (PEq.refl _)) (.cons rfl (app_l0 c1_cl hm rfl) .nil)))))) tmq) (by omega) ⟨i + 1, 0 + 1, out ++ [lF 0 N i], by omega, by rw [hS], by rw [List.length_append, hm]; rfl, rfl, rfl⟩
        · have hil : i = k + 1 := by have := of_decide_eq_false hc; omega
          subst hil
          rw [show N.take (k + 1) = N from by rw [← hk2]; exact List.take_length] at ho
          repeat' (first | refine yo ?_ ?_ | refine yw ?_ ?_ | refine yk ?_ ?_ | exact trivial | with_reducible refine wA ?_ ?_ | refine ys ?_ ?_ | refine xs_done ?_ | refine yl ?_ ?_ | refine w8 ?_ | refine w9 ?_ | refine w1 ?_ | refine w2 ?_ | refine w3 ?_ | refine w4 ?_ | refine w5 ?_ | refine w6 ?_ | refine w7 ?_ | refine yo0 ?_ ?_ | refine yw0 ?_ ?_ | exact qq | fail)
          refine pcan (st' := ⟨[(7, .ptr 2 0 0), (9, .ptr 4 0 0), (10, slP 0 5)], [rA1 nm l, vRow c1 1 (k + 1) (lF 0 N), cG (.lsl 1 0 (k + 1)) (.vmap (cS L)), mRowB kI (lsM (out)), cM1 (.mref 3), vRow c1 1 (0) (lF 0 (out))]⟩) (can_rowsv [0, 1, 2, 3, 4, 5] (k0_sel hk rfl) rfl (.cons rfl (RowEq.cl (rA1_cl _ _)) (.cons rfl (RowEq.cl (v_cl c1_cl _ _ _)) (.cons rfl (cG_eq (PEq.refl _) (PEq.refl _)) (.cons rfl m_eqB (.cons rfl (cM1_eq (PEq.refl _)) (.cons rfl (RowEq.cl (v_cl c1_cl _ _ _)) .nil)))))) tmq) ?_
          refine ploopN 1 ?_
          have ho0 : out = [] := List.length_eq_zero_iff.1 hm
          subst ho0
          repeat' (first | refine yo ?_ ?_ | refine yw ?_ ?_ | refine yk ?_ ?_ | exact trivial | with_reducible refine wA ?_ ?_ | refine ys ?_ ?_ | refine xs_done ?_ | refine yl ?_ ?_ | refine w8 ?_ | refine w9 ?_ | refine w1 ?_ | refine w2 ?_ | refine w3 ?_ | refine w4 ?_ | refine w5 ?_ | refine w6 ?_ | refine w7 ?_ | refine yo0 ?_ ?_ | refine yw0 ?_ ?_ | exact qq | fail)
          refine ocan0 (st' := ⟨[(82, .lsl 0 0 (k + 1)), (83, .clo 48 1 (nthP [cLis ([])]))], [iRow (k + 1) (lF 0 N)]⟩) (((can_vmap (one := false) (n := 0) (f := fun _ _ => .val (mVB kI (lsM ([])))) 3 (by rw [hk]; exact Nat.zero_le _) rfl trivial (tm := [(82, .lsl 1 0 (k + 1)), (83, .clo 48 1 (nthP [.ptr 4 0 0]))]) (rows := [rA1 nm l, vRow c1 1 (k + 1) (lF 0 N), cG (.lsl 1 0 (k + 1)) (.vmap (cS L)), deadR, cM1 (.vmap (.val (mVB kI (lsM ([]))))), vRow c1 1 (0) (lF 0 ([]))]) (by exact ⟨VM.refl, VM.refl, trivial⟩) (by exact ⟨.inl rfl, .inl rfl, .inl rfl, .inl rfl, .inr ⟨trivial, rfl, rfl, rfl, vm1⟩, .inl rfl, trivial⟩)).trans (can_frz [4] (by intro l hl; rw [hk]; exact Nat.zero_le _) rfl (tm := [(82, .lsl 1 0 (k + 1)), (83, .clo 48 1 (nthP [cLis ([])]))]) (by exact ⟨.inl rfl, .inr (argClo1 (argPtr (r := cM1 (.vmap (.val (mVB kI (lsM ([])))))) rfl trivial (List.Mem.head _) (Nat.le_refl _) rfl (fun a ha b hb => argCl trivial))), trivial⟩))).trans (can_rowsv [1] (k0_sel hk rfl) rfl (.cons rfl vi_row .nil) (by exact ⟨PEq.refl _, PEq.cl _ (reached_p ([])).cl, trivial⟩))) ?_
          refine pop_rowsc [0] rfl rfl rfl rfl rfl rfl (.cons rfl trivial (RowEq.cl (i_cl _ _)) .nil) (deleteFunc1_r (k + 1) N hk2 _ _ _ (reached_p ([])) (by omega)) (by exact ⟨PEq.refl _, PEq.cl _ (reached_p ([])).cl, trivial⟩) ?_
          rintro r rows ⟨rfl, rfl⟩
          refine ⟨_, _, rfl, ⟨i_cl _ _, trivial⟩, rfl, ?_⟩
          repeat' (first | refine yo ?_ ?_ | refine yw ?_ ?_ | refine yk ?_ ?_ | exact trivial | with_reducible refine wA ?_ ?_ | refine ys ?_ ?_ | refine xs_done ?_ | refine yl ?_ ?_ | refine w8 ?_ | refine w9 ?_ | refine w1 ?_ | refine w2 ?_ | refine w3 ?_ | refine w4 ?_ | refine w5 ?_ | refine w6 ?_ | refine w7 ?_ | refine yo0 ?_ ?_ | refine yw0 ?_ ?_ | exact qq | fail)
          refine xdone ?_
          rw [not_not_dec]
          generalize hM : (N.filter fun x => decide (x ∈ ([]))) = M
          refine kret [0] rfl ⟨trivial, trivial⟩ (qs := [sV M]) ⟨argLsl (r := iRow M.length (lF 0 M)) rfl trivial (List.Mem.head _) (by show 0 + M.length ≤ M.length; omega) (fun a ha b hb => ⟨by rw [Nat.zero_add]; rfl, trivial⟩), trivial⟩ ?_
          rw [← hM, hX, hD0 ho.symm]; rfl
      · --
        repeat' (first | refine yo ?_ ?_ | refine yw ?_ ?_ | refine yk ?_ ?_ | exact trivial | with_reducible refine wA ?_ ?_ | refine ys ?_ ?_ | refine xs_done ?_ | refine yl ?_ ?_ | refine w8 ?_ | refine w9 ?_ | refine w1 ?_ | refine w2 ?_ | refine w3 ?_ | refine w4 ?_ | refine w5 ?_ | refine w6 ?_ | refine w7 ?_ | refine yo0 ?_ ?_ | refine yw0 ?_ ?_ | exact qq | fail)
        refine pcond rfl ?_ ?_ <;> intro hc
        · have hc : i < k + 1 := by have := of_decide_eq_true hc; omega
          have hT : N.take (i + 1) = N.take i ++ [lF 0 N i] := by
            unfold lF
            rw [List.take_add_one, List.getD_eq_getElem?_getD, List.getElem?_eq_getElem (by omega)]; rfl
          have hxN : lF 0 N i ∈ N := by rw [lF_get' (by omega)]; exact List.getElem_mem (by omega)
          have hx := hNin _ hxN
          have hx3 : (lF 0 N i).toNat < l.length := by omega
          have hbo := h.body hvd hx3 hx.2.2
          have hz : 0 + ((i : Nat) : Int).toNat = i := by omega
          have cm := mentions_c (lF dD l (lF 0 N (0 + ((i : Nat) : Int).toNat)).toNat).body s (by rw [hz]; exact hbo.1) (by rw [hz]; exact hbo.2)
          rw [show mentS (lF dD l (lF 0 N (0 + ((i : Nat) : Int).toNat)).toNat).body s = mentS (lF dD l (lF 0 N i).toNat).body s by rw [hz]] at cm
          have hS := dn0_snoc (l := l) (s := s) (A := N.take i) (x := lF 0 N i)
          rw [← hT, ← ho] at hS
          have hnot : ¬ lF 0 N i ∈ out := fun hh => by
            rw [ho] at hh
            have h1 := (List.mem_filter.1 hh).1
            have h2 : (N.take i ++ [lF 0 N i]).Nodup := hT ▸ hNnd.sublist (List.take_sublist _ _)
            rw [List.nodup_append] at h2
            exact h2.2.2 _ h1 _ (List.mem_singleton.2 rfl) rfl
          cases hme : mentS (lF dD l (lF 0 N i).toNat).body s with
          | false =>
            rw [hme] at cm
            rw [hme, if_neg (by decide), List.append_nil] at hS
            repeat' (first | refine yo ?_ ?_ | refine yw ?_ ?_ | refine yk ?_ ?_ | exact trivial | with_reducible refine wA ?_ ?_ | refine ys ?_ ?_ | refine xs_done ?_ | refine yl ?_ ?_ | (rw [hz]; exact ⟨hx.1, hx.2.1⟩) | (rw [hz]; exact hx3) | refine z1 cm ?_ | refine z2 cm ?_ | refine z3 cm ?_ | refine z4 cm ?_ | refine z5 cm ?_ | refine w8 ?_ | refine w9 ?_ | refine w1 ?_ | refine w2 ?_ | refine w3 ?_ | refine w4 ?_ | refine w5 ?_ | refine w6 ?_ | refine w7 ?_ | refine yo0 ?_ ?_ | refine yw0 ?_ ?_ | exact qq | fail)
            rw [hw1]
            exact kloop_next (st' := ⟨[(2, vs s), (3, .ptr 0 0 0), (7, .ptr 2 0 0), (9, .ptr 4 0 0), (10, slP (m + 1) 5), (26, .lsl 1 0 (k + 1)), (27, vi ((k + 1 : Nat) : Int)), (28, vi ((i + 1 : Nat) : Int))], [rA1 nm l, vRow c1 1 (k + 1) (lF 0 N), cG (.lsl 1 0 (k + 1)) (.vmap (cS L)), mRowB kI (lsM (out)), cM1 (.mref 3), vRow c1 1 (m + 1) (lF 0 (out))]⟩) (N.length - (i + 1)) (can_rowsv [0, 1, 2, 3, 4, 5] (k0_sel hk rfl) rfl (.cons rfl (RowEq.cl (rA1_cl _ _)) (.cons rfl (RowEq.cl (v_cl c1_cl _ _ _)) (.cons rfl (cG_eq (PEq.refl _) (PEq.refl _)) (.cons rfl m_eqB (.cons rfl (cM1_eq (PEq.refl _)) (.cons rfl (RowEq.cl (v_cl c1_cl _ _ _)) .nil)))))) tmq) (by omega) ⟨i + 1, m + 1, out, by omega, by rw [hS], hm, rfl, rfl⟩
          | true =>
            rw [hme] at cm
            rw [hme, if_pos rfl] at hS
            repeat' (first | refine yo ?_ ?_ | refine yw ?_ ?_ | refine yk ?_ ?_ | exact trivial | with_reducible refine wA ?_ ?_ | refine ys ?_ ?_ | refine xs_done ?_ | refine yl ?_ ?_ | (rw [hz]; exact ⟨hx.1, hx.2.1⟩) | (rw [hz]; exact hx3) | refine z1 cm ?_ | refine z2 cm ?_ | refine z3 cm ?_ | refine z4 cm ?_ | refine z5 cm ?_ | refine w8 ?_ | refine w9 ?_ | refine w1 ?_ | refine w2 ?_ | refine w3 ?_ | refine w4 ?_ | refine w5 ?_ | refine w6 ?_ | refine w7 ?_ | refine yo0 ?_ ?_ | refine yw0 ?_ ?_ | exact qq | fail)
            rw [hz]
            refine pop_msetB (l := 3) mapIBd (lF 0 N i) 1 rfl rfl rfl rfl rfl rfl rfl (by rw [hk]; exact Nat.zero_le _) rfl rfl ?_
            rw [lsM_set hnot]
            repeat' (first | refine yo ?_ ?_ | refine yw ?_ ?_ | refine yk ?_ ?_ | exact trivial | with_reducible refine wA ?_ ?_ | refine ys ?_ ?_ | refine xs_done ?_ | refine yl ?_ ?_ | exact ⟨Nat.le_refl _, (by rw [hk]; exact Nat.le_of_ble_eq_true rfl), Nat.le_of_eq (Nat.zero_add _), (show (_ : Nat) * 8 ≤ 140737488355328 from by omega), (show (_ : Nat) ≤ 9223372036854775807 from by omega)⟩ | refine w8 ?_ | refine w9 ?_ | refine w1 ?_ | refine w2 ?_ | refine w3 ?_ | refine w4 ?_ | refine w5 ?_ | refine w6 ?_ | refine w7 ?_ | refine yo0 ?_ ?_ | refine yw0 ?_ ?_ | exact qq | fail)
            rw [hw1]
            exact kloop_next (st' := ⟨[(2, vs s), (3, .ptr 0 0 0), (7, .ptr 2 0 0), (9, .ptr 4 0 0), (10, slP (m + 1 + 1) 5), (26, .lsl 1 0 (k + 1)), (27, vi ((k + 1 : Nat) : Int)), (28, vi ((i + 1 : Nat) : Int))], [rA1 nm l, vRow c1 1 (k + 1) (lF 0 N), cG (.lsl 1 0 (k + 1)) (.vmap (cS L)), mRowB kI (lsM (out ++ [lF 0 N i])), cM1 (.mref 3), vRow c1 1 (m + 1 + 1) (lF 0 (out ++ [lF 0 N i]))]⟩) (N.length - (i + 1)) (can_rowsv [0, 1, 2, 3, 4, 7] (k0_sel hk rfl) rfl (.cons rfl (RowEq.cl (rA1_cl _ _)) (.cons rfl (RowEq.cl (v_cl c1_cl _ _ _)) (.cons rfl (cG_eq (PEq.refl _) (PEq.refl _)) (.cons rfl m_eqB (.cons rfl (cM1_eq (PEq.refl _)) (.cons rfl (app_l c1_cl hm rfl rfl) .nil)))))) tmq) (by omega) ⟨i + 1, m + 1 + 1, out ++ [lF 0 N i], by omega, by rw [hS], by rw [List.length_append, hm]; rfl, rfl, rfl⟩
        · have hil : i = k + 1 := by have := of_decide_eq_false hc; omega
          subst hil
          rw [show N.take (k + 1) = N from by rw [← hk2]; exact List.take_length] at ho
          repeat' (first | refine yo ?_ ?_ | refine yw ?_ ?_ | refine yk ?_ ?_ | exact trivial | with_reducible refine wA ?_ ?_ | refine ys ?_ ?_ | refine xs_done ?_ | refine yl ?_ ?_ | refine w8 ?_ | refine w9 ?_ | refine w1 ?_ | refine w2 ?_ | refine w3 ?_ | refine w4 ?_ | refine w5 ?_ | refine w6 ?_ | refine w7 ?_ | refine yo0 ?_ ?_ | refine yw0 ?_ ?_ | exact qq | fail)
          refine pcan (st' := ⟨[(7, .ptr 2 0 0), (9, .ptr 4 0 0), (10, .lsl 5 0 (m + 1))], [rA1 nm l, vRow c1 1 (k + 1) (lF 0 N), cG (.lsl 1 0 (k + 1)) (.vmap (cS L)), mRowB kI (lsM (out)), cM1 (.mref 3), iRow (m + 1) (lF 0 out)]⟩) (can_rowsv [0, 1, 2, 3, 4, 5] (k0_sel hk rfl) rfl (.cons rfl (RowEq.cl (rA1_cl _ _)) (.cons rfl (RowEq.cl (v_cl c1_cl _ _ _)) (.cons rfl (cG_eq (PEq.refl _) (PEq.refl _)) (.cons rfl m_eqB (.cons rfl (cM1_eq (PEq.refl _)) (.cons rfl (vi_row) .nil)))))) tmq) ?_
          have hI0 : InvN N out := ⟨by rw [ho]; exact hNnd.filter _, fun x hx => by rw [ho] at hx; exact (List.mem_filter.1 hx).1⟩
          have hD0' : dnS l day s = dnF N L (N.length + 1) 0 out := by rw [ho, ← hN, ← hL]; rfl
          clear hD0
          refine ploop (fun q st => ∃ (p o M n : Nat) (g : Nat → Int) (out : List Int), InvN N out ∧ p ≤ out.length ∧ dnS l day s = dnF N L (N.length + 1 - p) p out ∧ out.length = p + n ∧ o + n ≤ M ∧ (∀ a, a < n → g (o + a) = lF 0 (out.drop p) a) ∧ q = N.length - p ∧ st = ⟨[(7, .ptr 2 0 0), (9, .ptr 4 0 0), (10, .lsl 5 o n)], [rA1 nm l, vRow c1 1 (k + 1) (lF 0 N), cG (.lsl 1 0 (k + 1)) (.vmap (cS L)), mRowB kI (lsM (out)), cM1 (.mref 3), iRow M g]⟩) N.length ⟨0, 0, m + 1, m + 1, lF 0 out, out, hI0, Nat.zero_le _, hD0', by omega, by omega, fun a ha => by rw [Nat.zero_add, List.drop_zero], rfl, rfl⟩ ?_
          clear hI0 hD0' ho hm
          rintro _ _ ⟨p, o, M, n, g, out, hI, hpl, hD, hP, hM, hg, rfl, rfl⟩
          have hIl := hI.len
          repeat' (first | refine yo ?_ ?_ | refine yw ?_ ?_ | refine yk ?_ ?_ | exact trivial | with_reducible refine wA ?_ ?_ | refine ys ?_ ?_ | refine xs_done ?_ | refine yl ?_ ?_ | refine w8 ?_ | refine w9 ?_ | refine w1 ?_ | refine w2 ?_ | refine w3 ?_ | refine w4 ?_ | refine w5 ?_ | refine w6 ?_ | refine w7 ?_ | refine yo0 ?_ ?_ | refine yw0 ?_ ?_ | exact qq | fail)
          refine pcond rfl ?_ ?_ <;> intro hc
          · have hc : 0 < n := by have := of_decide_eq_true hc; omega
            obtain ⟨n, rfl⟩ : ∃ n', n = n' + 1 := ⟨n - 1, by omega⟩
            have hg0 : g o = lF 0 out p := by
              have := hg 0 (by omega)
              rw [Nat.add_zero] at this
              rw [this]; unfold lF; rw [List.getD_eq_getElem?_getD, List.getD_eq_getElem?_getD, List.getElem?_drop, Nat.add_zero]
            obtain ⟨nx, hnx⟩ : ∃ nx, lF 0 out p = nx := ⟨_, rfl⟩
            repeat' (first | refine yo ?_ ?_ | refine yw ?_ ?_ | refine yk ?_ ?_ | exact trivial | with_reducible refine wA ?_ ?_ | refine ys ?_ ?_ | refine xs_done ?_ | refine yl ?_ ?_ | (show o + 0 < M; omega) | exact ⟨by decide, by omega⟩ | exact ⟨trivial, trivial, by decide, by omega, Int.le_refl _⟩ | refine w8 ?_ | refine w9 ?_ | refine w1 ?_ | refine w2 ?_ | refine w3 ?_ | refine w4 ?_ | refine w5 ?_ | refine w6 ?_ | refine w7 ?_ | refine yo0 ?_ ?_ | refine yw0 ?_ ?_ | exact qq | fail)
            refine pcan (can_rowsv [0, 1, 2, 3, 4, 5] (tm := [(7, .ptr 2 0 0), (9, .ptr 4 0 0), (10, .lsl 5 (o + 1) (n)), (13, vi nx), (56, .lsl 1 0 (k + 1)), (57, vi ((k + 1 : Nat) : Int)), (58, vi ((0 : Nat) : Int))]) (rows := [rA1 nm l, vRow c1 1 (k + 1) (lF 0 N), cG (.lsl 1 0 (k + 1)) (.vmap (cS L)), mRowB kI (lsM (out)), cM1 (.mref 3), iRow M g]) (k0_sel hk rfl) rfl (.cons rfl (RowEq.cl (rA1_cl _ _)) (.cons rfl (RowEq.cl (v_cl c1_cl _ _ _)) (.cons rfl (cG_eq (PEq.refl _) (PEq.refl _)) (.cons rfl m_eqB (.cons rfl (cM1_eq (PEq.refl _)) (.cons rfl (RowEq.cl (i_cl _ _)) .nil)))))) (by exact ⟨PEq.refl _, PEq.refl _, PEq.of (by show PV.lsl 5 (o + 1) _ = _; congr 1; omega), PEq.of (by show vi (g (o + 0)) = vi nx; rw [Nat.add_zero, hg0, hnx]), PEq.refl _, PEq.refl _, PEq.refl _, trivial⟩)) ?_
            refine ploop (fun q st => ∃ (i p2 k2 M2 : Nat) (g2 : Nat → Int) (o2 : List Int), i ≤ N.length ∧ o2 = dnIn L nx out (N.take i) ∧ o2.length = p + 1 + k2 ∧ p2 + k2 ≤ M2 ∧ (∀ a, a < k2 → g2 (p2 + a) = lF 0 (o2.drop (p + 1)) a) ∧ q = N.length - i ∧ st = ⟨[(7, .ptr 2 0 0), (9, .ptr 4 0 0), (10, .lsl 5 (p2) (k2)), (13, vi nx), (56, .lsl 1 0 (k + 1)), (57, vi ((k + 1 : Nat) : Int)), (58, vi i)], [rA1 nm l, vRow c1 1 (k + 1) (lF 0 N), cG (.lsl 1 0 (k + 1)) (.vmap (cS L)), mRowB kI (lsM (o2)), cM1 (.mref 3), iRow M2 g2]⟩) N.length ⟨0, o + 1, n, M, g, out, Nat.zero_le _, by rw [List.take_zero]; rfl, by omega, by omega, fun a ha => by
              rw [show o + 1 + a = o + (a + 1) by omega, hg (a + 1) (by omega)]
              unfold lF
              rw [List.getD_eq_getElem?_getD, List.getD_eq_getElem?_getD, List.getElem?_drop, List.getElem?_drop, show p + (a + 1) = p + 1 + a by omega], rfl, rfl⟩ ?_
            rintro _ _ ⟨i, p2, k2, M2, g2, o2, hi, hs, hP2, hM2, hg2, rfl, rfl⟩
            have hw1 : IntKind.i64.wrap ((i : Int) + 1) = ((i + 1 : Nat) : Int) := w64 (by omega) (by omega)
            have hJ : InvN N o2 := hs ▸ InvN.fold (N.take i) out hI (fun x hx => List.mem_of_mem_take hx)
            have hJl2 := hJ.len
            have hQ2 : (o2.drop (p + 1)).length = k2 := by rw [List.length_drop]; omega
            repeat' (first | refine yo ?_ ?_ | refine yw ?_ ?_ | refine yk ?_ ?_ | exact trivial | with_reducible refine wA ?_ ?_ | refine ys ?_ ?_ | refine xs_done ?_ | refine yl ?_ ?_ | refine w8 ?_ | refine w9 ?_ | refine w1 ?_ | refine w2 ?_ | refine w3 ?_ | refine w4 ?_ | refine w5 ?_ | refine w6 ?_ | refine w7 ?_ | refine yo0 ?_ ?_ | refine yw0 ?_ ?_ | exact qq | fail)
            refine pcond rfl ?_ ?_ <;> intro hc2
            · have hc2 : i < k + 1 := by have := of_decide_eq_true hc2; omega
              have hT : N.take (i + 1) = N.take i ++ [lF 0 N i] := by
                unfold lF
                rw [List.take_add_one, List.getD_eq_getElem?_getD, List.getElem?_eq_getElem (by omega)]; rfl
              have hxN : lF 0 N i ∈ N := by rw [lF_get' (by omega)]; exact List.getElem_mem (by omega)
              have hS : dnIn L nx out (N.take (i + 1)) = dnStep L nx o2 (lF 0 N i) := by rw [hT, dnIn_snoc, ← hs]
              have cn := contains_c (sget L (lF 0 N i)) nx (Nat.le_trans (sget_len (N := N) hLb _) (by decide))
              have hz : 0 + ((i : Nat) : Int).toNat = i := by omega
              repeat' (first | refine yo ?_ ?_ | refine yw ?_ ?_ | refine yk ?_ ?_ | exact trivial | with_reducible refine wA ?_ ?_ | refine ys ?_ ?_ | refine xs_done ?_ | refine yl ?_ ?_ | refine w8 ?_ | refine w9 ?_ | refine w1 ?_ | refine w2 ?_ | refine w3 ?_ | refine w4 ?_ | refine w5 ?_ | refine w6 ?_ | refine w7 ?_ | refine yo0 ?_ ?_ | refine yw0 ?_ ?_ | exact qq | fail)
              rw [hz]
              refine pop_lookB mapIBd false (lF 0 N i) rfl rfl rfl rfl rfl rfl rfl ?_
              rw [show (bif false then PV.tup 2 (nthP [.val (bV ((mget (lsM o2) (lF 0 N i)).getD 0)), vb (mget (lsM o2) (lF 0 N i)).isSome]) else .val (bV ((mget (lsM o2) (lF 0 N i)).getD 0))) = vb (decide (lF 0 N i ∈ o2)) from lsM_b o2 (lF 0 N i)]
              by_cases hin : lF 0 N i ∈ o2
              · have hS2 : dnStep L nx o2 (lF 0 N i) = o2 := by unfold dnStep; rw [if_neg (fun hh => hh.1 hin)]
                rw [decide_eq_true hin]
                repeat' (first | refine yo ?_ ?_ | refine yw ?_ ?_ | refine yk ?_ ?_ | exact trivial | with_reducible refine wA ?_ ?_ | refine ys ?_ ?_ | refine xs_done ?_ | refine yl ?_ ?_ | (refine pop_gfalse rfl rfl rfl rfl ?_) | exact (fun hh => by cases hh) | refine w8 ?_ | refine w9 ?_ | refine w1 ?_ | refine w2 ?_ | refine w3 ?_ | refine w4 ?_ | refine w5 ?_ | refine w6 ?_ | refine w7 ?_ | refine yo0 ?_ ?_ | refine yw0 ?_ ?_ | exact qq | fail)
                rw [hw1]
                exact kloop_next (st' := ⟨[(7, .ptr 2 0 0), (9, .ptr 4 0 0), (10, .lsl 5 (p2) (k2)), (13, vi nx), (56, .lsl 1 0 (k + 1)), (57, vi ((k + 1 : Nat) : Int)), (58, vi ((i + 1 : Nat) : Int))], [rA1 nm l, vRow c1 1 (k + 1) (lF 0 N), cG (.lsl 1 0 (k + 1)) (.vmap (cS L)), mRowB kI (lsM (o2)), cM1 (.mref 3), iRow (M2) g2]⟩) (N.length - (i + 1)) (can_rowsv [0, 1, 2, 3, 4, 5] (k0_sel hk rfl) rfl (.cons rfl (RowEq.cl (rA1_cl _ _)) (.cons rfl (RowEq.cl (v_cl c1_cl _ _ _)) (.cons rfl (cG_eq (PEq.refl _) (PEq.refl _)) (.cons rfl m_eqB (.cons rfl (cM1_eq (PEq.refl _)) (.cons rfl (RowEq.cl (i_cl _ _)) .nil)))))) tmq) (by omega) ⟨i + 1, p2, k2, M2, g2, o2, by omega, by rw [hS, hS2], hP2, hM2, hg2, rfl, rfl⟩
              · rw [decide_eq_false hin]
                by_cases hx : nx ∈ sget L (lF 0 N i)
                · rw [decide_eq_true hx] at cn
                  have hS2 : dnStep L nx o2 (lF 0 N i) = o2 ++ [lF 0 N i] := by unfold dnStep; rw [if_pos ⟨hin, hx⟩]
                  repeat' (first | refine yo ?_ ?_ | refine yw ?_ ?_ | refine yk ?_ ?_ | exact trivial | with_reducible refine wA ?_ ?_ | refine ys ?_ ?_ | refine xs_done ?_ | refine yl ?_ ?_ | refine w8 ?_ | refine w9 ?_ | refine w1 ?_ | refine w2 ?_ | refine w3 ?_ | refine w4 ?_ | refine w5 ?_ | refine w6 ?_ | refine w7 ?_ | refine yo0 ?_ ?_ | refine yw0 ?_ ?_ | exact qq | fail)
                  refine pop_opt 68 rfl rfl ?_
                  refine pop_opt 69 rfl rfl ?_
                  refine pop_unguard rfl rfl ?_
                  refine pop_lookvS mapIS (lF 0 N i) rfl rfl rfl rfl rfl rfl ?_
                  repeat' (first | refine yo ?_ ?_ | refine yw ?_ ?_ | refine yk ?_ ?_ | exact trivial | with_reducible refine wA ?_ ?_ | refine ys ?_ ?_ | refine xs_done ?_ | refine yl ?_ ?_ | (refine pop_unguard rfl rfl ?_) | refine w8 ?_ | refine w9 ?_ | refine w1 ?_ | refine w2 ?_ | refine w3 ?_ | refine w4 ?_ | refine w5 ?_ | refine w6 ?_ | refine w7 ?_ | refine yo0 ?_ ?_ | refine yw0 ?_ ?_ | exact qq | fail)
                  refine pop_opt 71 rfl rfl ?_
                  repeat' (first | refine yo ?_ ?_ | refine yw ?_ ?_ | refine yk ?_ ?_ | exact trivial | with_reducible refine wA ?_ ?_ | refine ys ?_ ?_ | refine xs_done ?_ | refine yl ?_ ?_ | refine z1 cn ?_ | refine z2 cn ?_ | refine z3 cn ?_ | refine z4 cn ?_ | refine z5 cn ?_ | refine w8 ?_ | refine w9 ?_ | refine w1 ?_ | refine w2 ?_ | refine w3 ?_ | refine w4 ?_ | refine w5 ?_ | refine w6 ?_ | refine w7 ?_ | refine yo0 ?_ ?_ | refine yw0 ?_ ?_ | exact qq | fail)
                  refine pop_msetB (l := 3) mapIBd (lF 0 N i) 1 rfl rfl rfl rfl rfl rfl rfl (by rw [hk]; exact Nat.zero_le _) rfl rfl ?_
                  rw [lsM_set hin]
                  have hkb : k2 ≤ 1000000 := by omega
                  repeat' (first | refine yo ?_ ?_ | refine yw ?_ ?_ | refine yk ?_ ?_ | exact trivial | with_reducible refine wA ?_ ?_ | refine ys ?_ ?_ | refine xs_done ?_ | refine yl ?_ ?_ | exact ⟨Nat.le_refl _, (by rw [hk]; exact Nat.le_of_ble_eq_true rfl), hM2, (show (_ : Nat) * 8 ≤ 140737488355328 from by omega), (show (_ : Nat) ≤ 9223372036854775807 from by omega)⟩ | refine w8 ?_ | refine w9 ?_ | refine w1 ?_ | refine w2 ?_ | refine w3 ?_ | refine w4 ?_ | refine w5 ?_ | refine w6 ?_ | refine w7 ?_ | refine yo0 ?_ ?_ | refine yw0 ?_ ?_ | exact qq | fail)
                  rw [hw1]
                  exact kloop_next (st' := ⟨[(7, .ptr 2 0 0), (9, .ptr 4 0 0), (10, .lsl 5 (0) (k2 + 1)), (13, vi nx), (56, .lsl 1 0 (k + 1)), (57, vi ((k + 1 : Nat) : Int)), (58, vi ((i + 1 : Nat) : Int))], [rA1 nm l, vRow c1 1 (k + 1) (lF 0 N), cG (.lsl 1 0 (k + 1)) (.vmap (cS L)), mRowB kI (lsM (o2 ++ [lF 0 N i])), cM1 (.mref 3), iRow (k2 + 1) (lF 0 (o2.drop (p + 1) ++ [lF 0 N i]))]⟩) (N.length - (i + 1)) (can_rowsv [0, 1, 2, 3, 4, 7] (k0_sel hk rfl) rfl (.cons rfl (RowEq.cl (rA1_cl _ _)) (.cons rfl (RowEq.cl (v_cl c1_cl _ _ _)) (.cons rfl (cG_eq (PEq.refl _) (PEq.refl _)) (.cons rfl m_eqB (.cons rfl (cM1_eq (PEq.refl _)) (.cons rfl (app_q hQ2 hg2) .nil)))))) tmq) (by omega) ⟨i + 1, 0, k2 + 1, k2 + 1, lF 0 (o2.drop (p + 1) ++ [lF 0 N i]), o2 ++ [lF 0 N i], by omega, by rw [hS, hS2], by rw [List.length_append, hP2]; rfl, by omega, fun a ha => by rw [Nat.zero_add, List.drop_append_of_le_length (by omega)], rfl, rfl⟩
                · rw [decide_eq_false hx] at cn
                  have hS2 : dnStep L nx o2 (lF 0 N i) = o2 := by unfold dnStep; rw [if_neg (fun hh => hx hh.2)]
                  repeat' (first | refine yo ?_ ?_ | refine yw ?_ ?_ | refine yk ?_ ?_ | exact trivial | with_reducible refine wA ?_ ?_ | refine ys ?_ ?_ | refine xs_done ?_ | refine yl ?_ ?_ | refine w8 ?_ | refine w9 ?_ | refine w1 ?_ | refine w2 ?_ | refine w3 ?_ | refine w4 ?_ | refine w5 ?_ | refine w6 ?_ | refine w7 ?_ | refine yo0 ?_ ?_ | refine yw0 ?_ ?_ | exact qq | fail)
                  refine pop_opt 68 rfl rfl ?_
                  refine pop_opt 69 rfl rfl ?_
                  refine pop_unguard rfl rfl ?_
                  refine pop_lookvS mapIS (lF 0 N i) rfl rfl rfl rfl rfl rfl ?_
                  repeat' (first | refine yo ?_ ?_ | refine yw ?_ ?_ | refine yk ?_ ?_ | exact trivial | with_reducible refine wA ?_ ?_ | refine ys ?_ ?_ | refine xs_done ?_ | refine yl ?_ ?_ | (refine pop_unguard rfl rfl ?_) | refine w8 ?_ | refine w9 ?_ | refine w1 ?_ | refine w2 ?_ | refine w3 ?_ | refine w4 ?_ | refine w5 ?_ | refine w6 ?_ | refine w7 ?_ | refine yo0 ?_ ?_ | refine yw0 ?_ ?_ | exact qq | fail)
                  refine pop_opt 71 rfl rfl ?_
                  repeat' (first | refine yo ?_ ?_ | refine yw ?_ ?_ | refine yk ?_ ?_ | exact trivial | with_reducible refine wA ?_ ?_ | refine ys ?_ ?_ | refine xs_done ?_ | refine yl ?_ ?_ | refine z1 cn ?_ | refine z2 cn ?_ | refine z3 cn ?_ | refine z4 cn ?_ | refine z5 cn ?_ | refine w8 ?_ | refine w9 ?_ | refine w1 ?_ | refine w2 ?_ | refine w3 ?_ | refine w4 ?_ | refine w5 ?_ | refine w6 ?_ | refine w7 ?_ | refine yo0 ?_ ?_ | refine yw0 ?_ ?_ | exact qq | fail)
                  rw [hw1]
                  exact kloop_next (st' := ⟨[(7, .ptr 2 0 0), (9, .ptr 4 0 0), (10, .lsl 5 (p2) (k2)), (13, vi nx), (56, .lsl 1 0 (k + 1)), (57, vi ((k + 1 : Nat) : Int)), (58, vi ((i + 1 : Nat) : Int))], [rA1 nm l, vRow c1 1 (k + 1) (lF 0 N), cG (.lsl 1 0 (k + 1)) (.vmap (cS L)), mRowB kI (lsM (o2)), cM1 (.mref 3), iRow (M2) g2]⟩) (N.length - (i + 1)) (can_rowsv [0, 1, 2, 3, 4, 5] (k0_sel hk rfl) rfl (.cons rfl (RowEq.cl (rA1_cl _ _)) (.cons rfl (RowEq.cl (v_cl c1_cl _ _ _)) (.cons rfl (cG_eq (PEq.refl _) (PEq.refl _)) (.cons rfl m_eqB (.cons rfl (cM1_eq (PEq.refl _)) (.cons rfl (RowEq.cl (i_cl _ _)) .nil)))))) tmq) (by omega) ⟨i + 1, p2, k2, M2, g2, o2, by omega, by rw [hS, hS2], hP2, hM2, hg2, rfl, rfl⟩
            · have hil : i = k + 1 := by have := of_decide_eq_false hc2; omega
              subst hil
              rw [show N.take (k + 1) = N from by rw [← hk2]; exact List.take_length] at hs
              have hJl := hJ.len
              repeat' (first | refine yo ?_ ?_ | refine yw ?_ ?_ | refine yk ?_ ?_ | exact trivial | with_reducible refine wA ?_ ?_ | refine ys ?_ ?_ | refine xs_done ?_ | refine yl ?_ ?_ | refine w8 ?_ | refine w9 ?_ | refine w1 ?_ | refine w2 ?_ | refine w3 ?_ | refine w4 ?_ | refine w5 ?_ | refine w6 ?_ | refine w7 ?_ | refine yo0 ?_ ?_ | refine yw0 ?_ ?_ | exact qq | fail)
              exact kloop_next (st' := ⟨[(7, .ptr 2 0 0), (9, .ptr 4 0 0), (10, .lsl 5 p2 k2)], [rA1 nm l, vRow c1 1 (k + 1) (lF 0 N), cG (.lsl 1 0 (k + 1)) (.vmap (cS L)), mRowB kI (lsM (o2)), cM1 (.mref 3), iRow M2 g2]⟩) (N.length - (p + 1)) (can_rowsv [0, 1, 2, 3, 4, 5] (k0_sel hk rfl) rfl (.cons rfl (RowEq.cl (rA1_cl _ _)) (.cons rfl (RowEq.cl (v_cl c1_cl _ _ _)) (.cons rfl (cG_eq (PEq.refl _) (PEq.refl _)) (.cons rfl m_eqB (.cons rfl (cM1_eq (PEq.refl _)) (.cons rfl (RowEq.cl (i_cl _ _)) .nil)))))) tmq) (by omega) ⟨p + 1, p2, M2, k2, g2, o2, hJ, by omega, by
                rw [hD, show N.length + 1 - p = N.length + 1 - (p + 1) + 1 by omega, dnF, if_pos (by omega), hnx, ← hs], by omega, hM2, hg2, rfl, rfl⟩
          · have hn0 : n = 0 := by have := of_decide_eq_false hc; omega
            subst hn0
            have hfin : dnS l day s = out := by
              rw [hD]
              cases hf : N.length + 1 - p with
              | zero => rfl
              | succ f => rw [dnF, if_neg (by omega)]
            repeat' (first | refine yo ?_ ?_ | refine yw ?_ ?_ | refine yk ?_ ?_ | exact trivial | with_reducible refine wA ?_ ?_ | refine ys ?_ ?_ | refine xs_done ?_ | refine yl ?_ ?_ | refine w8 ?_ | refine w9 ?_ | refine w1 ?_ | refine w2 ?_ | refine w3 ?_ | refine w4 ?_ | refine w5 ?_ | refine w6 ?_ | refine w7 ?_ | refine yo0 ?_ ?_ | refine yw0 ?_ ?_ | exact qq | fail)
            refine ocan0 (st' := ⟨[(82, .lsl 0 0 (k + 1)), (83, .clo 48 1 (nthP [cLis (out)]))], [iRow (k + 1) (lF 0 N)]⟩) (((can_vmap (one := false) (n := 0) (f := fun _ _ => .val (mVB kI (lsM (out)))) 3 (by rw [hk]; exact Nat.zero_le _) rfl trivial (tm := [(82, .lsl 1 0 (k + 1)), (83, .clo 48 1 (nthP [.ptr 4 0 0]))]) (rows := [rA1 nm l, vRow c1 1 (k + 1) (lF 0 N), cG (.lsl 1 0 (k + 1)) (.vmap (cS L)), deadR, cM1 (.vmap (.val (mVB kI (lsM (out))))), iRow M g]) (by exact ⟨VM.refl, VM.refl, trivial⟩) (by exact ⟨.inl rfl, .inl rfl, .inl rfl, .inl rfl, .inr ⟨trivial, rfl, rfl, rfl, vm1⟩, .inl rfl, trivial⟩)).trans (can_frz [4] (by intro l hl; rw [hk]; exact Nat.zero_le _) rfl (tm := [(82, .lsl 1 0 (k + 1)), (83, .clo 48 1 (nthP [cLis (out)]))]) (by exact ⟨.inl rfl, .inr (argClo1 (argPtr (r := cM1 (.vmap (.val (mVB kI (lsM (out)))))) rfl trivial (List.Mem.head _) (Nat.le_refl _) rfl (fun a ha b hb => argCl trivial))), trivial⟩))).trans (can_rowsv [1] (k0_sel hk rfl) rfl (.cons rfl vi_row .nil) (by exact ⟨PEq.refl _, PEq.cl _ (reached_p (out)).cl, trivial⟩))) ?_
            refine pop_rowsc [0] rfl rfl rfl rfl rfl rfl (.cons rfl trivial (RowEq.cl (i_cl _ _)) .nil) (deleteFunc1_r (k + 1) N hk2 _ _ _ (reached_p (out)) (by omega)) (by exact ⟨PEq.refl _, PEq.cl _ (reached_p (out)).cl, trivial⟩) ?_
            rintro r rows ⟨rfl, rfl⟩
            refine ⟨_, _, rfl, ⟨i_cl _ _, trivial⟩, rfl, ?_⟩
            repeat' (first | refine yo ?_ ?_ | refine yw ?_ ?_ | refine yk ?_ ?_ | exact trivial | with_reducible refine wA ?_ ?_ | refine ys ?_ ?_ | refine xs_done ?_ | refine yl ?_ ?_ | refine w8 ?_ | refine w9 ?_ | refine w1 ?_ | refine w2 ?_ | refine w3 ?_ | refine w4 ?_ | refine w5 ?_ | refine w6 ?_ | refine w7 ?_ | refine yo0 ?_ ?_ | refine yw0 ?_ ?_ | exact qq | fail)
            refine xdone ?_
            rw [not_not_dec]
            generalize hM : (N.filter fun x => decide (x ∈ (out))) = M
            refine kret [0] rfl ⟨trivial, trivial⟩ (qs := [sV M]) ⟨argLsl (r := iRow M.length (lF 0 M)) rfl trivial (List.Mem.head _) (by show 0 + M.length ≤ M.length; omega) (fun a ha b hb => ⟨by rw [Nat.zero_add]; rfl, trivial⟩), trivial⟩ ?_
            rw [← hM, hX, hfin]; rfl
  · have cg := newGraph_c1 nm l day h (by omega) he
    refine pure_of (G := G.toPg) (fn := Try.f29) Try.func29 rfl rfl rfl ?_; intro Γ hk
    repeat' (first | refine yo ?_ ?_ | refine yw ?_ ?_ | refine yk ?_ ?_ | exact trivial | with_reducible refine wA ?_ ?_ | refine ys ?_ ?_ | refine xs_done ?_ | refine yl ?_ ?_ | (refine pop_callc [] rfl rfl rfl rfl rfl rfl (fun _ h => by cases h) (cg) (args_cl _ rfl) ?_; rintro _ rfl) | refine w8 ?_ | refine w9 ?_ | refine w1 ?_ | refine w2 ?_ | refine w3 ?_ | refine w4 ?_ | refine w5 ?_ | refine w6 ?_ | refine w7 ?_ | refine yo0 ?_ ?_ | refine yw0 ?_ ?_ | exact qq | fail)
    refine pcond (b := true) (eqB (by simpa using he)) ?_ ?_ <;> intro h1
    · repeat' (first | refine yo ?_ ?_ | refine yw ?_ ?_ | refine yk ?_ ?_ | exact trivial | with_reducible refine wA ?_ ?_ | refine ys ?_ ?_ | refine xs_done ?_ | refine yl ?_ ?_ | refine w8 ?_ | refine w9 ?_ | refine w1 ?_ | refine w2 ?_ | refine w3 ?_ | refine w4 ?_ | refine w5 ?_ | refine w6 ?_ | refine w7 ?_ | refine yo0 ?_ ?_ | refine yw0 ?_ ?_ | exact qq | fail)
      refine kret [] rfl ⟨trivial, trivial⟩ (qs := [.vsl 0 1 (tI (lF 0 []))]) ⟨argNil, trivial⟩ ?_
      unfold DwnS; rw [if_pos he]; rfl
    · cases h1
end Go.Proofs.Ytcefhgomkehokaa
namespace Go.Proofs.Ytcefhgomkehokaa
abbrev dE : En := (0, 0, 0)
structure EnOk (E : List En) (key : Int) : Prop where
  asc : E.Pairwise (fun a b => a.1 < b.1)
  all : ∀ e, e ∈ E → 0 ≤ e.1 ∧ e.1 < key ∧ e.2 ∈ decL
theorem EnOk.snoc {E : List En} {key : Int} (h : EnOk E key) (h0 : 0 ≤ key) {x : Int × Int} (hx : x ∈ decL) {k' : Int} (hk : key < k') : EnOk (E ++ [(key, x)]) k' := by
  refine ⟨List.pairwise_append.2 ⟨h.asc, by simp, fun a ha b hb => ?_⟩, fun e he => ?_⟩
  · obtain rfl : b = (key, x) := by simpa using hb
    exact (h.all a ha).2.1
  · rcases List.mem_append.1 he with he | he
    · have := h.all e he; exact ⟨this.1, by omega, this.2.2⟩
    · obtain rfl : e = (key, x) := by simpa using he
      exact ⟨h0, hk, hx⟩
theorem dec_ok : ∀ x ∈ decL, -9223372036854775808 ≤ x.1 ∧ x.1 ≤ 9223372036854775807 ∧ decS x.1 x.2 = true := by decide +kernel
theorem EnOk.ents {E : List En} {key : Int} (h : EnOk E key) (hk : key ≤ 1000000) (h1 : 1 ≤ E.length) (h2 : E.length ≤ 64) : entsS E.length (lF dE E) = true := by
  have hg : ∀ i (hi : i < E.length), lF dE E i = E[i] := fun i hi => by unfold lF; rw [List.getD_eq_getElem?_getD, List.getElem?_eq_getElem hi]; rfl
  unfold entsS
  rw [decide_eq_true (by omega : 1 ≤ E.length ∧ E.length ≤ 64), Bool.true_and, allK_iff]
  intro i hi
  have ha := h.all _ (List.getElem_mem hi)
  have hd := (dec_ok _ ha.2.2).2.2
  rw [hg i hi, hd, Bool.and_true, decide_eq_true_eq]
  refine ⟨?_, by omega⟩
  by_cases h0 : i = 0
  · rw [if_pos h0]; omega
  · rw [if_neg h0, hg (i - 1) (by omega)]
    exact List.pairwise_iff_getElem.1 h.asc (i - 1) i (by omega) hi (by omega)
structure ScOk (nm : ByteArray) (t : Ty) (day : Int) (d : Df) : Prop where
  eq : d = ⟨2, nm, t, day, d.ne, d.ef, .nil, 0, 0, 0⟩
  en : entsS d.ne d.ef = true
  ef : ∀ i, i < d.ne → -9223372036854775808 ≤ (d.ef i).2.1 ∧ (d.ef i).2.1 ≤ 9223372036854775807
  ne : d.ne ≤ 64
  dl : ∀ i, i < d.ne → (d.ef i).2 ∈ decL ∧ -1000000000000 ≤ (d.ef i).1 ∧ (d.ef i).1 ≤ 1000000000000
abbrev rScl (nm : ByteArray) (t : Ty) (day : Int) (k l : Nat) : List PV := [vi 2, vs nm, vb t.b, vi t.m, vi t.h, vi t.d, vi day, slP k l, vi 0, vi 0, vi 0, vi 0, vi 0, vi 0, vs ⟨#[]⟩, vi 0, vi 0, .val (.slice none 0 0), vi 0, vi 0, vi 0]
abbrev zD : List PV := [vi 0, vs ⟨#[]⟩, vb false, vi 0, vi 0, vi 0, vi 0, .val (.slice none 0 0), vi 0, vi 0, vi 0, vi 0, vi 0, vi 0, vs ⟨#[]⟩, vi 0, vi 0, .val (.slice none 0 0), vi 0, vi 0, vi 0]
theorem argSc19 {mem : List Row} {L : List Nat} {nm : ByteArray} {t : Ty} {day : Int} {p : PV} {ne : Nat} {ef : Nat → En} (h : ArgOk mem L p (.vsl ne 3 (tF cN3 ef))) : ArgOk mem L (.agg 21 (nthP [vi 2, vs nm, vb t.b, vi t.m, vi t.h, vi t.d, vi day, p, vi 0, vi 0, vi 0, vi 0, vi 0, vi 0, vs ⟨#[]⟩, vi 0, vi 0, .val (.slice none 0 0), vi 0, vi 0, vi 0])) (vD ⟨2, nm, t, day, ne, ef, .nil, 0, 0, 0⟩) := argAggL fun i hi => by
  rcases (by omega : i = 0 ∨ i = 1 ∨ i = 2 ∨ i = 3 ∨ i = 4 ∨ i = 5 ∨ i = 6 ∨ i = 7 ∨ i = 8 ∨ i = 9 ∨ i = 10 ∨ i = 11 ∨ i = 12 ∨ i = 13 ∨ i = 14 ∨ i = 15 ∨ i = 16 ∨ i = 17 ∨ i = 18 ∨ i = 19 ∨ i = 20) with rfl | rfl | rfl | rfl | rfl | rfl | rfl | rfl | rfl | rfl | rfl | rfl | rfl | rfl | rfl | rfl | rfl | rfl | rfl | rfl | rfl
  · exact argVal
  · exact argVal
  · exact argVal
  · exact argVal
  · exact argVal
  · exact argVal
  · exact argVal
  · exact h
  · exact argVal
  · exact argVal
  · exact argVal
  · exact argVal
  · exact argVal
  · exact argVal
  · exact argVal
  · exact argVal
  · exact argVal
  · exact argNil
  · exact argVal
  · exact argVal
  · exact argVal
set_option maxHeartbeats 4000000 in
theorem scale_t (nm : ByteArray) (t : Ty) (day : Int) : TapC G.P 16 [vs nm, vT t, vi day] (fun r => ∃ d : Df, r = vD d ∧ ScOk nm t day d) := by
  intro n g at_ hn h1 h2
  refine ptr_of (G := G.toPg) (fn := Try.f16) Try.func16 rfl rfl rfl ?_; intro Γ hk
  repeat' (first | refine yo ?_ ?_ | refine yw ?_ ?_ | refine yk ?_ ?_ | exact trivial | with_reducible refine wA ?_ ?_ | refine ys ?_ ?_ | refine xs_done ?_ | refine yl ?_ ?_ | (refine tn1 hn ?_; rintro at_ b1 b2 x hx1 hx2) | refine w8 ?_ | refine w9 ?_ | refine w1 ?_ | refine w2 ?_ | refine w3 ?_ | refine w4 ?_ | refine w5 ?_ | refine w6 ?_ | refine w7 ?_ | refine yo0 ?_ ?_ | refine yw0 ?_ ?_ | exact qq | fail)
  rename_i key hk1 hk2
  obtain ⟨X, rfl⟩ := Int.eq_ofNat_of_zero_le hx1
  have hw : IntKind.i64.wrap (1 + (X : Int)) = ((X + 1 : Nat) : Int) := by rw [w64 (by omega) (by omega)]; omega
  rw [hw]
  refine pcan (can_virt (vRow cN3 3 0 (lF dE [])) rfl) ?_
  refine pcan (st' := ⟨[(0, .ptr 0 0 0), (8, .ptr 1 0 0), (9, .ptr 2 0 0), (10, vi key), (11, vi ((X + 1 : Nat) : Int))], [tapeRow n g at_, ⟨.own, true, 1, 21, fun _ => nthP zD⟩, ⟨.own, true, 1, 21, fun _ => nthP (rScl nm t day 0 3)⟩, vRow cN3 3 0 (lF dE [])]⟩) (can_rowsv [0, 2, 3, 4] (k0_sel hk rfl) rfl (.cons rfl (RowEq.cl (tape_cl _ _ _)) (.cons rfl rqq (.cons rfl rqq (.cons rfl (RowEq.cl (v_cl cN3_cl _ _ _)) .nil)))) (by (repeat refine ⟨PEq.refl _, ?_⟩); exact trivial)) ?_
  refine ploop (fun q st => ∃ (at' : Int) (i k : Nat) (E : List En) (ky : Int), 0 ≤ at' ∧ at' ≤ n ∧ E.length = k ∧ k + i = X + 1 ∧ q = i ∧ EnOk E ky ∧ 0 ≤ ky ∧ ky ≤ 1 + 4 * k ∧ st = ⟨[(0, .ptr 0 0 0), (8, .ptr 1 0 0), (9, .ptr 2 0 0), (10, vi ky), (11, vi i)], [tapeRow n g at', ⟨.own, true, 1, 21, fun _ => nthP zD⟩, ⟨.own, true, 1, 21, fun _ => nthP (rScl nm t day k 3)⟩, vRow cN3 3 k (lF dE E)]⟩) (X + 1) ⟨at_, X + 1, 0, [], key, b1, b2, rfl, by omega, rfl, ⟨List.Pairwise.nil, by simp⟩, hk1, by omega, rfl⟩ ?_
  rintro i _ ⟨at', _, k, E, ky, b1, b2, hEk, hki, rfl, hE, hky0, hky1, rfl⟩
  repeat' (first | refine yo ?_ ?_ | refine yw ?_ ?_ | refine yk ?_ ?_ | exact trivial | with_reducible refine wA ?_ ?_ | refine ys ?_ ?_ | refine xs_done ?_ | refine yl ?_ ?_ | refine w8 ?_ | refine w9 ?_ | refine w1 ?_ | refine w2 ?_ | refine w3 ?_ | refine w4 ?_ | refine w5 ?_ | refine w6 ?_ | refine w7 ?_ | refine yo0 ?_ ?_ | refine yw0 ?_ ?_ | exact qq | fail)
  refine pcond rfl ?_ ?_ <;> intro hc <;> simp at hc
  · have hwi : IntKind.i64.wrap ((i : Int) - 1) = ((i - 1 : Nat) : Int) := by rw [w64 (by omega) (by omega)]; omega
    rcases k with _ | k
    · repeat' (first | refine yo ?_ ?_ | refine yw ?_ ?_ | refine yk ?_ ?_ | exact trivial | with_reducible refine wA ?_ ?_ | refine ys ?_ ?_ | refine xs_done ?_ | refine yl ?_ ?_ | refine xs_startH (id := 6) [1,2] true [.take 0, .take 1, .take 2, .take 3, .one 4, .take 5, .one 6, .one 7, .take 8, .one 9] 0 rfl (by kernel_rfl) ?_ | (refine t1 decimal_t hn ?_; rintro at_ _ b1 b2 ⟨y, rfl, hy⟩) | (refine t2 decimal_t hn ?_; rintro at_ _ b1 b2 ⟨y, rfl, hy⟩) | (refine t3 decimal_t hn ?_; rintro at_ _ b1 b2 ⟨y, rfl, hy⟩) | exact ⟨Nat.le_refl _, (by rw [hk]; exact Nat.le_of_ble_eq_true rfl), Nat.le_of_eq (Nat.zero_add _), (show (_ : Nat) * 24 ≤ 140737488355328 from by omega), (show (_ : Nat) ≤ 9223372036854775807 from by omega)⟩ | (refine tn1 hn ?_; rintro at_ b1 b2 x hx1 hx2) | refine w8 ?_ | refine w9 ?_ | refine w1 ?_ | refine w2 ?_ | refine w3 ?_ | refine w4 ?_ | refine w5 ?_ | refine w6 ?_ | refine w7 ?_ | refine yo0 ?_ ?_ | refine yw0 ?_ ?_ | exact qq | fail)
      refine xdone ?_
      have hwz : IntKind.i64.wrap (ky + IntKind.i64.wrap (1 + x)) = ky + (1 + x) := by rw [w64 (n := 1 + x) (by omega) (by omega), w64 (by omega) (by omega)]
      rw [hwz, hwi]
      exact kloop_next (st' := ⟨[(0, .ptr 0 0 0), (8, .ptr 1 0 0), (9, .ptr 2 0 0), (10, vi (ky + (1 + x))), (11, vi ((i - 1 : Nat) : Int))], [tapeRow n g _, ⟨.own, true, 1, 21, fun _ => nthP zD⟩, ⟨.own, true, 1, 21, fun _ => nthP (rScl nm t day (0 + 1) 3)⟩, vRow cN3 3 (0 + 1) (lF dE (E ++ [(ky, y)]))]⟩) (i - 1) (can_rowsv [0, 1, 2, 5] (k0_sel hk rfl) rfl (.cons rfl (RowEq.cl (tape_cl _ _ _)) (.cons rfl rqq (.cons rfl rqq (.cons rfl (by first | exact app_l cN3_cl (by assumption) rfl rfl | exact app_l0 cN3_cl (by assumption) rfl) .nil)))) tmq) (by omega) ⟨_, i - 1, 0 + 1, _, _, b1, b2, by rw [List.length_append, hEk]; rfl, by omega, rfl, hE.snoc hky0 hy (by omega), by omega, by omega, rfl⟩
    · repeat' (first | refine yo ?_ ?_ | refine yw ?_ ?_ | refine yk ?_ ?_ | exact trivial | with_reducible refine wA ?_ ?_ | refine ys ?_ ?_ | refine xs_done ?_ | refine yl ?_ ?_ | refine xs_startH (id := 6) [1,2] true [.take 0, .take 1, .take 2, .take 3, .one 4, .take 5, .one 6, .one 7, .take 8, .one 9] 0 rfl (by kernel_rfl) ?_ | (refine t1 decimal_t hn ?_; rintro at_ _ b1 b2 ⟨y, rfl, hy⟩) | (refine t2 decimal_t hn ?_; rintro at_ _ b1 b2 ⟨y, rfl, hy⟩) | (refine t3 decimal_t hn ?_; rintro at_ _ b1 b2 ⟨y, rfl, hy⟩) | exact ⟨Nat.le_refl _, (by rw [hk]; exact Nat.le_of_ble_eq_true rfl), Nat.le_of_eq (Nat.zero_add _), (show (_ : Nat) * 24 ≤ 140737488355328 from by omega), (show (_ : Nat) ≤ 9223372036854775807 from by omega)⟩ | (refine tn1 hn ?_; rintro at_ b1 b2 x hx1 hx2) | refine w8 ?_ | refine w9 ?_ | refine w1 ?_ | refine w2 ?_ | refine w3 ?_ | refine w4 ?_ | refine w5 ?_ | refine w6 ?_ | refine w7 ?_ | refine yo0 ?_ ?_ | refine yw0 ?_ ?_ | exact qq | fail)
      refine xdone ?_
      have hwz : IntKind.i64.wrap (ky + IntKind.i64.wrap (1 + x)) = ky + (1 + x) := by rw [w64 (n := 1 + x) (by omega) (by omega), w64 (by omega) (by omega)]
      rw [hwz, hwi]
      exact kloop_next (st' := ⟨[(0, .ptr 0 0 0), (8, .ptr 1 0 0), (9, .ptr 2 0 0), (10, vi (ky + (1 + x))), (11, vi ((i - 1 : Nat) : Int))], [tapeRow n g _, ⟨.own, true, 1, 21, fun _ => nthP zD⟩, ⟨.own, true, 1, 21, fun _ => nthP (rScl nm t day ((k + 1) + 1) 3)⟩, vRow cN3 3 ((k + 1) + 1) (lF dE (E ++ [(ky, y)]))]⟩) (i - 1) (can_rowsv [0, 1, 2, 5] (k0_sel hk rfl) rfl (.cons rfl (RowEq.cl (tape_cl _ _ _)) (.cons rfl rqq (.cons rfl rqq (.cons rfl (by first | exact app_l cN3_cl (by assumption) rfl rfl | exact app_l0 cN3_cl (by assumption) rfl) .nil)))) tmq) (by omega) ⟨_, i - 1, (k + 1) + 1, _, _, b1, b2, by rw [List.length_append, hEk]; rfl, by omega, rfl, hE.snoc hky0 hy (by omega), by omega, by omega, rfl⟩
  · obtain rfl : i = 0 := by omega
    rcases k with _ | k
    · omega
    · repeat' (first | refine yo ?_ ?_ | refine yw ?_ ?_ | refine yk ?_ ?_ | exact trivial | with_reducible refine wA ?_ ?_ | refine ys ?_ ?_ | refine xs_done ?_ | refine yl ?_ ?_ | refine w8 ?_ | refine w9 ?_ | refine w1 ?_ | refine w2 ?_ | refine w3 ?_ | refine w4 ?_ | refine w5 ?_ | refine w6 ?_ | refine w7 ?_ | refine yo0 ?_ ?_ | refine yw0 ?_ ?_ | exact qq | fail)
      refine ktapL [3] (qs := [vD ⟨2, nm, t, day, k + 1, lF dE E, .nil, 0, 0, 0⟩]) rfl b1 b2 (by simp) rfl ⟨Nat.zero_lt_one, trivial⟩ ⟨argSc19 (arg_o (s := .own) cN3_cl rfl trivial (List.Mem.head _)), trivial⟩ ⟨_, rfl, rfl, ?_, ?_, ?_, ?_⟩
      · show entsS (k + 1) _ = true
        rw [← hEk]; exact hE.ents (by omega) (by omega) (by omega)
      · intro i hi
        have hi : i < k + 1 := hi
        have hm : lF dE E i ∈ E := by unfold lF; rw [List.getD_eq_getElem?_getD, List.getElem?_eq_getElem (by omega)]; exact List.getElem_mem _
        have := dec_ok _ (hE.all _ hm).2.2
        exact ⟨this.1, this.2.1⟩
      · show k + 1 ≤ 64; omega
      · intro i hi
        have hi : i < k + 1 := hi
        have hm : lF dE E i ∈ E := by unfold lF; rw [List.getD_eq_getElem?_getD, List.getElem?_eq_getElem (by omega)]; exact List.getElem_mem _
        obtain ⟨e1, e2, e3⟩ := hE.all _ hm
        exact ⟨e3, show -1000000000000 ≤ (lF dE E i).1 by omega, show (lF dE E i).1 ≤ 1000000000000 by omega⟩
end Go.Proofs.Ytcefhgomkehokaa
namespace Go.Proofs.Ytcefhgomkehokaa
theorem take_snoc {α : Type} {d : α} {l : List α} {n : Nat} (h : n < l.length) : l.take (n + 1) = l.take n ++ [lF d l n] := by
  rw [List.take_succ_eq_append_getElem h]
  unfold lF; rw [List.getD_eq_getElem?_getD, List.getElem?_eq_getElem h]; rfl
abbrev cSt (x : ByteArray) : List PV := [vs x]
theorem cSt_cl : CellsCl cSt := fun _ => ⟨trivial, trivial⟩
def dropS : Nat → Code → Code
  | 0, c => c
  | n + 1, .seq _ b => dropS n b
  | _, c => c
theorem pcutx {G : Pg} {N : Nat} {Γ : Fr} {st : PSt} {K : Exit → PSt → Prop} {x y : Code} {id : Nat} (M : PSt → Prop) (h : PWp G N Γ x st (Kblock id (Kcut N Γ M K))) (hy : ∀ st, M st → PWp G N Γ y st K) : PWp G N Γ x st (Kblock id (Kseq G N Γ y K)) := .mk fun ρ I a w hr =>
  wp_mono (h.go ρ I a w hr) fun e a w ⟨h1, st, ρ, I, h2, h3⟩ => by
    have nrm : Kcut N Γ M K .normal st → ∃ st ρ I, Kseq G N Γ y K .normal st ∧ Rel N Γ st ρ I a w := fun hc => by
      obtain ⟨st', hc, hm⟩ := hc.go
      obtain ⟨ρ', I', hr'⟩ := hc ρ I a w h3
      exact ⟨st', ρ', I', kseq_normal (hy st' hm), hr'⟩
    have h2 := h2.go
    cases e with
    | normal =>
      obtain ⟨st', ρ', I', h4, h5⟩ := nrm h2
      exact ⟨h1, st', ρ', I', ⟨h4⟩, h5⟩
    | exit i =>
      have h2 : (bif Nat.beq i id then Kcut N Γ M K .normal st else Kcut N Γ M K (.exit i) st) := h2
      cases hb : Nat.beq i id
      · rw [hb] at h2
        exact ⟨h1, st, ρ, I, ⟨show (bif Nat.beq i id then _ else _ : Prop) from by rw [hb]; exact ⟨h2.go⟩⟩, h3⟩
      · rw [hb] at h2
        obtain ⟨st', ρ', I', h4, h5⟩ := nrm h2
        exact ⟨h1, st', ρ', I', ⟨show (bif Nat.beq i id then _ else _ : Prop) from by rw [hb]; exact h4⟩, h5⟩
    | _ => exact ⟨h1, st, ρ, I, ⟨⟨h2.go⟩⟩, h3⟩
section
variable {G : Pg2} {N : Nat} {Γ : Fr} {K : Exit → PSt → Prop} {ops : Array Oper} {H : List Nat} {ni fin : Bool} {m : Nat} {ls : Array Bool} {st : PSt} {o : Oper}
def lsF (L : List Nat) (n : Nat) : Array Bool := ((List.range n).map fun i => L.any (Nat.beq i)).toArray
theorem xs_more {sch : Sched} {m' : Nat} (hok : schOk ops fin sch ls = true) (hm : schLen sch + m' = m) (h : PS G N Γ ops H ni fin sch m' ls st K) : PS G N Γ ops H ni false [] m ls st K := ⟨fun hs _ => by
  show PE G N Γ ops H ni (0 + m) ls st K
  rw [Nat.zero_add, ← hm]
  exact h.go hs hok⟩
def fTm {α : Type} : List (Nat × PV) → (List (Nat × PV) → Option α) → Option α
  | [], k => k []
  | (d, v) :: l, k => fTm l fun l' => k ((d, v) :: l')
def fMem {α : Type} : List Row → (List Row → Option α) → Option α
  | [], k => k []
  | ⟨s, o, n, sz, f⟩ :: l, k => fMem l fun l' => k (⟨s, o, n, sz, f⟩ :: l')
def fSt (st : PSt) : Option PSt := match st with | ⟨tm, mem⟩ => fTm tm fun tm => fMem mem fun mem => some ⟨tm, mem⟩
theorem fTm_eq {α : Type} : ∀ (l : List (Nat × PV)) (k : List (Nat × PV) → Option α), fTm l k = k l
  | [], _ => rfl
  | (d, v) :: l, k => by rw [fTm, fTm_eq l]
theorem fMem_eq {α : Type} : ∀ (l : List Row) (k : List Row → Option α), fMem l k = k l
  | [], _ => rfl
  | ⟨s, o, n, sz, f⟩ :: l, k => by rw [fMem, fMem_eq l]
theorem fSt_eq {st st' : PSt} (h : fSt st = some st') : st' = st := by
  obtain ⟨tm, mem⟩ := st
  have h : fTm tm (fun tm => fMem mem fun mem => some (⟨tm, mem⟩ : PSt)) = some st' := h
  rw [fTm_eq, fMem_eq] at h
  exact (Option.some.inj h).symm
theorem lsF_set (L : List Nat) (n i : Nat) : (lsF L n).setIfInBounds i true = lsF (i :: L) n := by
  apply Array.ext
  · simp [lsF]
  · intro a h1 h2
    have ha : a < n := by simpa [lsF] using h2
    rw [Array.getElem_setIfInBounds (by simpa [lsF] using ha)]
    by_cases e : i = a
    · subst e; simp [lsF]
    · have e2 : Nat.beq a i = false := by cases hb : Nat.beq a i; rfl; exact absurd (Nat.eq_of_beq_eq_true hb).symm e
      rw [if_neg e]
      simp [lsF, e2]
def brOk (ops : Array Oper) (ls : Array Bool) (m : Nat) (T : List (Nat × Sched × Bool × Nat)) : Bool :=
  (Region.ready .any ops ls == T.map Prod.fst) && (!T.isEmpty && T.all fun x => schOk ops x.2.2.1 x.2.1 (ls.setIfInBounds x.1 true) && schLen x.2.1 + x.2.2.2 == m)
inductive BrAll (G : Pg2) (N : Nat) (Γ : Fr) (ops : Array Oper) (H : List Nat) (ni : Bool) (L : List Nat) (n : Nat) (st : PSt) (K : Exit → PSt → Prop) : List (Nat × Sched × Bool × Nat) → Prop where
  | nil : BrAll G N Γ ops H ni L n st K []
  | cons {i : Nat} {sch : Sched} {fin : Bool} {m' : Nat} {T : List (Nat × Sched × Bool × Nat)} (h : ∃ o ch nk, opAt ops.toList i = some o ∧ chB H ch = true ∧ PStep G N Γ ops o st ch nk (fun st' => PS G N Γ ops H (ni && nk) fin sch m' (lsF (i :: L) n) st' K)) (ht : BrAll G N Γ ops H ni L n st K T) : BrAll G N Γ ops H ni L n st K ((i, sch, fin, m') :: T)
theorem BrAll.at {n : Nat} {L : List Nat} {T : List (Nat × Sched × Bool × Nat)} (h : BrAll G N Γ ops H ni L n st K T) : ∀ i, i ∈ T.map Prod.fst → ∃ x, x ∈ T ∧ x.1 = i ∧ ∃ o ch nk, opAt ops.toList i = some o ∧ chB H ch = true ∧ PStep G N Γ ops o st ch nk (fun st' => PS G N Γ ops H (ni && nk) x.2.2.1 x.2.1 x.2.2.2 (lsF (i :: L) n) st' K) := by
  induction h with
  | nil => intro i hi; cases hi
  | cons h ht ih =>
    intro i hi
    rw [List.map_cons, List.mem_cons] at hi
    rcases hi with rfl | hi
    · exact ⟨_, List.mem_cons_self .., rfl, h⟩
    · obtain ⟨x, h1, h2, h3⟩ := ih i hi
      exact ⟨x, List.mem_cons_of_mem _ h1, h2, h3⟩
theorem xs_brT {st1 : PSt} {n : Nat} (L : List Nat) (T : List (Nat × Sched × Bool × Nat)) (hls : (ls == lsF L n) = true) (hf : fSt st = some st1) (hok : brOk ops (lsF L n) m T = true) (hH : inB st1.mem.length H = true) (h : BrAll G N Γ ops H ni L n st1 K T) : PS G N Γ ops H ni false [] (m + 1) ls st K := by
  have e := fSt_eq hf
  have e2 : ls = lsF L n := by simpa using hls
  subst e e2
  simp only [brOk, Bool.and_eq_true, beq_iff_eq, List.all_eq_true] at hok
  obtain ⟨h1, h2, h3⟩ := hok
  refine xs_br hH h1 (by cases T; simp at h2; simp) fun i hi => ?_
  obtain ⟨x, hx, rfl, o, ch, nk, g1, g2, g3⟩ := h.at i hi
  obtain ⟨h4, h5⟩ := h3 x hx
  refine ⟨o, ch, nk, g1, g2, .mk fun ρ I a w hrel Q => ?_⟩
  have := g3.go ρ I a w hrel Q
  split
  · rename_i hw
    rw [if_pos hw] at this
    exact Oper.wp_mono (fun a' w' ⟨st', ρ', I', hk, hr⟩ => ⟨st', ρ', I', ⟨_, _, _, h4, h5, by rw [lsF_set]; exact hk⟩, hr⟩) this
  · rename_i hw
    rw [if_neg hw] at this
    obtain ⟨st', ρ', I', hk, hr⟩ := this
    exact ⟨st', ρ', I', ⟨_, _, _, h4, h5, by rw [lsF_set]; exact hk⟩, hr⟩
theorem xs_moreF {sch : Sched} {m' n : Nat} (L : List Nat) (hls : (ls == lsF L n) = true) (hok : (schOk ops fin sch (lsF L n) && schLen sch + m' == m) = true) (h : PS G N Γ ops H ni fin sch m' (lsF L n) st K) : PS G N Γ ops H ni false [] m ls st K := by
  have e2 : ls = lsF L n := by simpa using hls
  subst e2
  simp only [Bool.and_eq_true, beq_iff_eq] at hok
  exact xs_more hok.1 hok.2 h
theorem xs_takeR {i d : Nat} {s : Sched} {r : PV} {p : Prop} (hi : opAt ops.toList i = some o) (hg : o.guard = none) (hd : o.dst = some d) (hN : Nat.blt d N = true) (hr : pread G.tab ⟨st.tm, maskM H 0 st.mem⟩ o.op = some (r, p)) (hni : (needI st o.op && !ni) = false) (hp : p)
    (h : PS G N Γ ops H ni fin s m (ls.setIfInBounds i true) (st.put d r) K) : PS G N Γ ops H ni fin (.take i :: s) m ls st K := ⟨fun hs hok => by
  simp only [schOk, Bool.and_eq_true] at hok
  have ht : takeOp G.tab G.eqs N ops H ni st o = some (st.put d r, p) := by
    unfold takeOp
    simp only [hd, hN, hg, hr, hni, cond_true, cond_false]
  have := pe_take (fuel := schLen s + m) i (opAt_ops hi) hs hok.1.1 hok.1.2 ht hp (h.go hs hok.2)
  rw [schLen, show schLen s + 1 + m = schLen s + m + 1 by omega]
  · exact this
  · intro _ _ h; cases h⟩
end
end Go.Proofs.Ytcefhgomkehokaa
namespace Go.Proofs.Ytcefhgomkehokaa
abbrev dK : ByteArray × Int := (⟨#[]⟩, 0)
structure AB (wild : Bool) (hh n : Nat) (l : List Df) : Prop where
  sub : (l.map keyD).Sublist (KS.take n)
  gd : ∀ d, d ∈ l → GD wild hh d
  has : ∀ x, x ∈ KS.take (min n 17) → x.1 ∈ l.map Df.nm
theorem AB.skip {wild : Bool} {hh n : Nat} {l : List Df} (h : AB wild hh n l) (hn : n < 18) (hs : (lF dK KS n).1 ∈ (KS.take (min n 17)).map Prod.fst ∨ n = 17) : AB wild hh (n + 1) l := by
  refine ⟨h.sub.trans (List.take_sublist_take_left (by omega)), h.gd, fun x hx => ?_⟩
  by_cases h17 : n = 17
  · subst h17; exact h.has x hx
  · have hn17 : n < 17 := by omega
    rw [show min (n + 1) 17 = n + 1 by omega, take_snoc (d := dK) (by show n < 18; omega)] at hx
    rcases List.mem_append.1 hx with hx | hx
    · exact h.has x (by rw [show min n 17 = n by omega]; exact hx)
    · have : x = lF dK KS n := by simpa using hx
      subst this
      obtain ⟨y, hy, he⟩ := List.mem_map.1 (hs.resolve_right h17)
      rw [← he]; exact h.has y hy
theorem AB.snoc {wild : Bool} {hh n : Nat} {l : List Df} (h : AB wild hh n l) (hn : n < 18) {d : Df} (hk : keyD d = lF dK KS n) (hd : GD wild hh d) : AB wild hh (n + 1) (l ++ [d]) := by
  refine ⟨?_, fun x hx => ?_, fun x hx => ?_⟩
  · rw [take_snoc (d := dK) (by show n < 18; omega), List.map_append, List.map_cons, List.map_nil, hk]
    exact h.sub.append (List.Sublist.refl _)
  · rcases List.mem_append.1 hx with hx | hx
    · exact h.gd x hx
    · obtain rfl : x = d := by simpa using hx
      exact hd
  · rw [List.map_append, List.mem_append]
    by_cases h17 : n = 17
    · subst h17; exact .inl (h.has x hx)
    · rw [show min (n + 1) 17 = n + 1 by omega, take_snoc (d := dK) (by show n < 18; omega)] at hx
      rcases List.mem_append.1 hx with hx | hx
      · exact .inl (h.has x (by rw [show min n 17 = n by omega]; exact hx))
      · have : x = lF dK KS n := by simpa using hx
        subst this
        refine .inr ?_
        rw [← hk]; simp [keyD]
theorem KS_nodup : (KS.map fun x => (x.1.toList, x.2)).Nodup := by decide +kernel
theorem neds_KS : ∀ n, n ∈ neds → n ∈ (KS.take 17).map Prod.fst := by
  intro n hn
  unfold neds at hn
  simp only [List.mem_cons, List.not_mem_nil, or_false] at hn
  rcases hn with rfl | rfl | rfl | rfl | rfl | rfl | rfl | rfl | rfl | rfl | rfl | rfl <;> (unfold KS; simp only [List.take_succ_cons, List.take_zero, List.map_cons, List.map_nil]; repeat' (first | exact List.Mem.head _ | refine List.Mem.tail _ ?_))
theorem AB.good {wild : Bool} {hh : Nat} {l : List Df} (h : AB wild hh 18 l) : AGood wild hh l := by
  refine ⟨h.gd, ?_, fun n hn => ?_, ?_, fun d hd => h.sub.subset (List.mem_map_of_mem hd)⟩
  · have e : (l.map fun d => (d.nm.toList, d.day)) = (l.map keyD).map (fun x => (x.1.toList, x.2)) := by rw [List.map_map]; rfl
    rw [e]
    exact (h.sub.map _).nodup KS_nodup
  · obtain ⟨x, hx, he⟩ := List.mem_map.1 (neds_KS n hn)
    rw [← he]; exact h.has x hx
  · have := h.sub.length_le
    simp [KS] at this
    omega
abbrev dI (k : Int) (nm : ByteArray) (t : Ty) : Df := ⟨k, nm, t, 0, 0, fun _ => (0, 0, 0), .nil, 0, 0, 0⟩
theorem zero_nil : zeroX .nil = true := by decide +kernel
theorem gd_in {wild : Bool} {hh : Nat} {k : Int} {nm : ByteArray} {t : Ty} (ht : (nm, k, t) ∈ tabL) (hk : k = 1 ∨ k = 5) (hs : nm.size ≤ 100) (h1 : typS t = true) (h2 : k = 5 → t.b = false) : GD wild hh (dI k nm t) := by
  have n3 : ¬ k = 3 := by omega
  have n4 : ¬ k = 4 := by omega
  refine ⟨ht, ?_, ⟨Nat.le_trans hs (by decide), fun i hi => absurd hi (Nat.not_lt_zero i), Nat.zero_le _, .nil, ?_⟩, fun h => ?_, fun h => absurd h n3⟩
  · rcases hk with rfl | rfl
    · simp [defS, h1, zero_nil]
    · simp [defS, h1, zero_nil, h2 rfl]
  · exact ⟨by show (-9223372036854775808 : Int) ≤ 0; decide, by show (0 : Int) ≤ 9223372036854775807; decide⟩
  · rcases h with h | h
    · exact absurd h n3
    · exact absurd h n4
theorem gd_sc {wild : Bool} {hh : Nat} {nm : ByteArray} {t : Ty} {day : Int} {d : Df} (h : ScOk nm t day d) (ht : (nm, (2 : Int), t) ∈ tabL) (hs : nm.size ≤ 100) (h1 : typS t = true) (h2 : t.b = false) (h3 : dayS day = true) : GD wild hh d := by
  obtain ⟨kind, nm', ty, day', ne, ef, body, mode, sn, sd⟩ := d
  obtain ⟨e, hen, hef, hne⟩ := h
  simp only [Df.mk.injEq] at e hen hef hne
  obtain ⟨rfl, rfl, rfl, rfl, -, -, rfl, rfl, rfl, rfl⟩ := e
  refine ⟨ht, ?_, ⟨Nat.le_trans hs (by decide), hef, Nat.le_trans hne (by decide), .nil, ?_⟩, fun h => ?_, fun h => ?_⟩
  · simp [defS, h1, h2, h3, hen, zero_nil]
  · exact ⟨by show (-9223372036854775808 : Int) ≤ 0; decide, by show (0 : Int) ≤ 9223372036854775807; decide⟩
  · have h : (2 : Int) = 3 ∨ (2 : Int) = 4 := h
    rcases h with h | h <;> exact absurd h (by decide)
  · have h : (2 : Int) = 3 := h
    exact absurd h (by decide)
abbrev dR (nm : ByteArray) (t : Ty) (day : Int) (e : Ex) : Df := ⟨3, nm, t, day, 0, fun _ => (0, 0, 0), e, 0, 0, 0⟩
theorem gd_rule {wild : Bool} {hh : Nat} {nm : ByteArray} {t : Ty} {day : Int} {e : Ex} {ρ : Int} (he : EOk ρ hh t e) (hρ : ρ ≤ rhoD wild nm) (h32 : hh ≤ 32) (ht : (nm, (3 : Int), t) ∈ tabL) (hs : nm.size ≤ 100) (h1 : typS t = true) (h3 : day = 20454 ∨ day = 20459) : GD wild hh (dR nm t day e) := by
  refine ⟨ht, ?_, ⟨Nat.le_trans hs (by decide), fun i hi => absurd hi (Nat.not_lt_zero i), Nat.zero_le _, he.bd, ?_⟩, fun h => ?_, fun h => h3⟩
  · have hd : dayS day = true := by rcases h3 with rfl | rfl <;> decide
    simp [defS, h1, hd, he.vl 32 h32]
  · exact ⟨by show (-9223372036854775808 : Int) ≤ 0; decide, by show (0 : Int) ≤ 9223372036854775807; decide⟩
  · show EOk (rhoD wild nm) hh (if (3 : Int) = 4 then tM else t) e
    rw [if_neg (by decide)]; exact he.up hρ
abbrev dP (nm : ByteArray) (e : Ex) (mode : Int) (x : Int × Int) : Df := ⟨4, nm, t0, 20454, 0, fun _ => (0, 0, 0), e, mode, x.1, x.2⟩
def stepL : List (Int × Int) := [(1, 100), (1, 20), (1, 1)]
theorem gd_pay {wild : Bool} {hh : Nat} {nm : ByteArray} {e : Ex} {mode : Int} {x : Int × Int} {ρ : Int} (he : EOk ρ hh tM e) (hρ : ρ ≤ rhoD wild nm) (h32 : hh ≤ 32) (ht : (nm, (4 : Int), t0) ∈ tabL) (hs : nm.size ≤ 100) (hm : 0 ≤ mode ∧ mode ≤ 6) (hx : x ∈ stepL) : GD wild hh (dP nm e mode x) := by
  have key : ∀ x ∈ stepL, -9223372036854775808 ≤ x.1 ∧ x.1 ≤ 9223372036854775807 ∧ stepS x.1 x.2 = true := by decide +kernel
  obtain ⟨k1, k2, k3⟩ := key x hx
  have hd : dayS 20454 = true := by decide
  have hmo : modeB mode = true := by simp [modeB]; omega
  refine ⟨ht, ?_, ⟨Nat.le_trans hs (by decide), fun i hi => absurd hi (Nat.not_lt_zero i), Nat.zero_le _, he.bd, k1, k2⟩, fun h => he.up hρ, fun h => ?_⟩
  · simp [defS, tz, hd, hmo, k3, he.vl 32 h32]
  · have h : (4 : Int) = 3 := h
    exact absurd h (by decide)
def ins5 : List Df := [dI 1 n_h tH, dI 1 n_g t0, dI 1 n_f tB, dI 5 n_gross tM, dI 5 n_time tH]
theorem ab_nil (wild : Bool) (hh : Nat) : AB wild hh 0 [] := ⟨List.Sublist.refl _, fun d hd => absurd hd (List.not_mem_nil), fun x hx => absurd hx (by simp)⟩
theorem ab5 (wild : Bool) (hh : Nat) : AB wild hh 5 ins5 := by
  have h1 := (ab_nil wild hh).snoc (by omega) (d := dI 1 n_h tH) rfl (gd_in mm (.inl rfl) (by decide) (by decide) (fun h => by cases h))
  have h2 := h1.snoc (by omega) (d := dI 1 n_g t0) rfl (gd_in mm (.inl rfl) (by decide) (by decide) (fun h => by cases h))
  have h3 := h2.snoc (by omega) (d := dI 1 n_f tB) rfl (gd_in mm (.inl rfl) (by decide) (by decide) (fun h => by cases h))
  have h4 := h3.snoc (by omega) (d := dI 5 n_gross tM) rfl (gd_in mm (.inr rfl) (by decide) (by decide) (fun h => rfl))
  exact h4.snoc (by omega) (d := dI 5 n_time tH) rfl (gd_in mm (.inr rfl) (by decide) (by decide) (fun h => rfl))
def nmsR : List ByteArray := [n_r1, n_r2, n_r3, n_r4]
def tysR : List Ty := [tR, tM, tB, t0]
theorem ks_rule {i v : Nat} (hi : i < 4) (hv : v < 2) : lF dK KS (8 + 2 * i + v) = (lF ⟨#[]⟩ nmsR i, 20454 + 5 * (v : Int)) := by
  rcases (by omega : i = 0 ∨ i = 1 ∨ i = 2 ∨ i = 3) with rfl | rfl | rfl | rfl <;> rcases (by omega : v = 0 ∨ v = 1) with rfl | rfl <;> rfl
theorem rule_tab {i : Nat} (hi : i < 4) : (lF ⟨#[]⟩ nmsR i, (3 : Int), lF t0 tysR i) ∈ tabL ∧ (lF ⟨#[]⟩ nmsR i).size ≤ 100 ∧ typS (lF t0 tysR i) = true := by
  rcases (by omega : i = 0 ∨ i = 1 ∨ i = 2 ∨ i = 3) with rfl | rfl | rfl | rfl
  · exact ⟨show (n_r1, (3 : Int), tR) ∈ tabL from mm, by decide, by decide⟩
  · exact ⟨show (n_r2, (3 : Int), tM) ∈ tabL from mm, by decide, by decide⟩
  · exact ⟨show (n_r3, (3 : Int), tB) ∈ tabL from mm, by decide, by decide⟩
  · exact ⟨show (n_r4, (3 : Int), t0) ∈ tabL from mm, by decide, by decide⟩
theorem ks_skip {i : Nat} (hi : i < 4) : (lF dK KS (8 + 2 * i + 1)).1 ∈ (KS.take (min (8 + 2 * i + 1) 17)).map Prod.fst := by
  refine List.mem_map.2 ⟨lF dK KS (8 + 2 * i), ?_, ?_⟩
  · rw [show min (8 + 2 * i + 1) 17 = 8 + 2 * i + 1 by omega, take_snoc (d := dK) (by show 8 + 2 * i < 18; omega)]
    exact List.mem_append_right _ (List.mem_singleton.2 rfl)
  · rcases (by omega : i = 0 ∨ i = 1 ∨ i = 2 ∨ i = 3) with rfl | rfl | rfl | rfl <;> rfl
theorem ks_w : (lF dK KS 7).1 ∈ (KS.take (min 7 17)).map Prod.fst := by
  refine List.mem_map.2 ⟨lF dK KS 5, ?_, rfl⟩
  show lF dK KS 5 ∈ KS.take 7
  rw [take_snoc (d := dK) (by decide : 6 < 18), take_snoc (d := dK) (by decide : 5 < 18)]
  simp
def nmsP : List ByteArray := [n_a, n_b]
abbrev n_metal : ByteArray := ⟨#[109, 101, 116, 97, 108]⟩
theorem o_eqP {α : Type} {c : α → List PV} {τ : Nat → Option Nat} {sz n n' : Nat} {f : Nat → Nat → PV} {g : Nat → α} (hn : n' ≤ n) (h : ∀ a, a < n' → ∀ b, b < sz → PEq ((f a b).ren τ) (nthP (c (g a)) b)) : RowEq (Row.ren τ ⟨.own, false, n, sz, f⟩) (oRow c sz n' g) := ⟨rfl, rfl, hn, fun i hi j hj => h i hi j hj⟩
theorem o_eq2 {α : Type} {c : α → List PV} (hc : CellsCl c) {τ : Nat → Option Nat} {sz n n' : Nat} {f : Nat → Nat → PV} {g : Nat → α} (hn : n' ≤ n) (h : ∀ a, a < n' → ∀ b, b < sz → f a b = nthP (c (g a)) b ∨ PEq ((f a b).ren τ) (nthP (c (g a)) b)) : RowEq (Row.ren τ ⟨.own, false, n, sz, f⟩) (oRow c sz n' g) := o_eqP hn fun a ha b hb => by
  rcases h a ha b hb with h | h
  · rw [h]; exact PEq.cl _ (clL_nth _ b (hc (g a)))
  · exact h
theorem app_p {α : Type} {c : α → List PV} (hc : CellsCl c) {τ : Nat → Option Nat} {sz m M : Nat} {d : α} {l : List α} {y : α} {L : List PV} (hl : l.length = m) (hL : ∀ b, b < sz → PEq ((nthP L b).ren τ) (nthP (c y) b)) (hM : M = m + 1) : RowEq (Row.ren τ ⟨.own, false, M, sz, appF m (fun x => tF c (lF d l) (0 + x)) (fun x b => nthP L ((0 + x) * sz + b))⟩) (vRow c sz (m + 1) (lF d (l ++ [y]))) := by
  subst hM hl
  refine o_eq2 hc (Nat.le_refl _) fun a ha b hb => ?_
  by_cases e : a < l.length
  · rw [appF_lt _ _ e, Nat.zero_add, lF_lt e]; exact .inl rfl
  · obtain rfl : a = l.length := by omega
    rw [appF_ge _ _ (Nat.le_refl _), Nat.sub_self, Nat.zero_add, Nat.zero_mul, Nat.zero_add, lF_at]
    exact .inr (hL b hb)
theorem app_2 {α : Type} {c : α → List PV} (hc : CellsCl c) {τ : Nat → Option Nat} {sz m M : Nat} {d : α} {l : List α} {y z : α} {L : List PV} (hl : l.length = m) (hs : ∀ x : α, (c x).length = sz) (hL : L = c y ++ c z) (hM : M = m + 2) : RowEq (Row.ren τ ⟨.own, false, M, sz, appF m (fun x => tF c (lF d l) (0 + x)) (fun x b => nthP L ((0 + x) * sz + b))⟩) (vRow c sz (m + 1 + 1) (lF d (l ++ [y, z]))) := by
  subst hM hl hL
  refine o_eq hc (Nat.le_refl _) fun a ha b hb => ?_
  by_cases e : a < l.length
  · rw [appF_lt _ _ e, Nat.zero_add, lF_lt e]; rfl
  · have hn : ∀ (A B : List PV) (k : Nat), nthP (A ++ B) k = if k < A.length then nthP A k else nthP B (k - A.length) := by
      intro A
      induction A with
      | nil => intro B k; simp
      | cons x A ih =>
        intro B k
        cases k with
        | zero => simp [nthP]
        | succ k =>
          show nthP (A ++ B) k = _
          rw [ih]; simp [nthP]
    rcases (by omega : a = l.length ∨ a = l.length + 1) with rfl | rfl
    · rw [appF_ge _ _ (Nat.le_refl _), Nat.sub_self, Nat.zero_add, Nat.zero_mul, Nat.zero_add, lF_at, hn, if_pos (by rw [hs]; exact hb)]
    · rw [appF_ge _ _ (by omega), show l.length + 1 - l.length = 1 by omega, show (0 + 1) * sz + b = sz + b by omega, hn, if_neg (by rw [hs]; omega), hs, show sz + b - sz = b by omega]
      have : lF d (l ++ [y, z]) (l.length + 1) = z := by
        unfold lF; rw [List.getD_eq_getElem?_getD, List.getElem?_append_right (by omega), show l.length + 1 - l.length = 1 by omega]; rfl
      rw [this]
theorem split21 {b : Nat} (h : b < 21) : b = 0 ∨ b = 1 ∨ b = 2 ∨ b = 3 ∨ b = 4 ∨ b = 5 ∨ b = 6 ∨ b = 7 ∨ b = 8 ∨ b = 9 ∨ b = 10 ∨ b = 11 ∨ b = 12 ∨ b = 13 ∨ b = 14 ∨ b = 15 ∨ b = 16 ∨ b = 17 ∨ b = 18 ∨ b = 19 ∨ b = 20 := by omega
abbrev tysA : List Ty := [t0, tM, tH, tR, tB]
theorem rule_ty {i : Nat} (hi : i < 4) : lF t0 tysR i ∈ tysA := by
  rcases (by omega : i = 0 ∨ i = 1 ∨ i = 2 ∨ i = 3) with rfl | rfl | rfl | rfl <;> simp [tysA, tysR, lF]
theorem AB.len {wild : Bool} {hh n : Nat} {l : List Df} (h : AB wild hh n l) : l.length ≤ 18 := by
  have := h.sub.length_le
  simp [KS] at this
  omega
abbrev rZA : Row := ⟨.own, true, 1, 2, fun _ => nthP [vs ⟨#[]⟩, .val (.slice none 0 0)]⟩
abbrev rA (k l : Nat) : Row := ⟨.own, true, 1, 2, fun _ => nthP [vs n_metal, slP k l]⟩
theorem rule_rho {wild : Bool} {i : Nat} (hi : i < 4) : IntKind.i64.wrap ((i : Int) + 1) ≤ rhoD wild (lF ⟨#[]⟩ nmsR i) := by
  rcases (by omega : i = 0 ∨ i = 1 ∨ i = 2 ∨ i = 3) with rfl | rfl | rfl | rfl <;> cases wild <;> decide +kernel
theorem rule_rho5 {wild : Bool} {nm : ByteArray} (h : wild = true) : (5 : Int) ≤ rhoD wild nm := by
  unfold rhoD; rw [if_pos h]; exact Int.le_refl _
theorem pay_rho {wild : Bool} {v : Nat} (hv : v ≤ 1) : IntKind.i64.wrap (4 + (v : Int)) ≤ rhoD wild (lF ⟨#[]⟩ nmsP v) := by
  rcases (by omega : v = 0 ∨ v = 1) with rfl | rfl <;> cases wild <;> decide +kernel
theorem pread_cell {tab : List TI} {st : PSt} {t : Nat} {x : Operand} {l i n sz : Nat} {one : Bool} {f : Nat → Nat → PV} {q : PV} (hx : st.ev x = .ptr l i 0) (hr : rowAt st.mem l = some ⟨.own, one, n, sz, f⟩) (hk : (tget tab t).k.isAgg = false) (hsc : (tget tab t).k.scalar = true) (hs : Nat.ble 1 sz = true) (hf : f i 0 = q) : pread tab st (.load t x) = some (q, i < n) := by
  have fe : ∀ (p : PV) (k : PV → RP), force p k = k p := fun p k => by cases p <;> rfl
  have hj : Nat.blt 0 sz = true := hs
  simp only [pread, hx, str, hr, Row.ok, pload, hk, hsc, hj, fe, hf, rmap, strP, cond_true, cond_false, Bool.and_self]
def swpL (l : List Df) (i j : Nat) : List Df := (l.set i (lF dD l j)).set j (lF dD l i)
theorem swpL_perm {l : List Df} {i j : Nat} (hi : i < l.length) (hj : j < l.length) : l.Perm (swpL l i j) := by
  have h := (Array.swap_perm (xs := l.toArray) (i := i) (j := j) (by simpa using hi) (by simpa using hj)).toList
  rw [Array.toList_swap] at h
  have e : swpL l i j = (l.set i l[j]).set j l[i] := by unfold swpL; rw [lF_take hi, lF_take hj]
  rw [e]
  simpa using h.symm
theorem swpL_len {l : List Df} {i j : Nat} : (swpL l i j).length = l.length := by simp [swpL]
theorem swpL_at {l : List Df} {i j : Nat} (hi : i < l.length) (hj : j < l.length) (a : Nat) : lF dD (swpL l i j) a = if a = j then lF dD l i else if a = i then lF dD l j else lF dD l a := by
  unfold swpL lF
  simp only [List.getD_eq_getElem?_getD, List.getElem?_set, List.length_set]
  by_cases h1 : j = a
  · subst h1; simp [hj]
  · by_cases h2 : i = a
    · subst h2; simp [h1, hi, Ne.symm h1]
    · simp [h1, h2, Ne.symm h1, Ne.symm h2]
theorem swp_eq {τ : Nat → Option Nat} {n i j i' j' : Nat} {l : List Df} {L L' : List PV} (hi : i < l.length) (hj : j < l.length) (hi' : i' = i) (hj' : j' = j) (hL : L = cD (lF dD l j')) (hL' : L' = cD (lF dD l i')) : RowEq (Row.ren τ ⟨.own, false, n, 21, updR (updR (tF cD (lF dD l)) i' L) j' L'⟩) (oRow cD 21 n (lF dD (swpL l i j))) := by
  subst hL hL' hi' hj'
  refine o_eq cD_cl (Nat.le_refl _) fun a ha b hb => ?_
  rw [swpL_at hi hj]
  unfold updR
  by_cases h1 : a = j'
  · subst h1; simp
  · have e1 : Nat.beq a j' = false := by cases hb2 : Nat.beq a j'; rfl; exact absurd (Nat.eq_of_beq_eq_true hb2) h1
    by_cases h2 : a = i'
    · subst h2; simp only [e1, cond_false, if_neg h1, if_true]; simp
    · have e2 : Nat.beq a i' = false := by cases hb2 : Nat.beq a i'; rfl; exact absurd (Nat.eq_of_beq_eq_true hb2) h2
      simp only [e1, e2, cond_false, if_neg h1, if_neg h2]; rfl
abbrev agrPost (wild : Bool) (h n : Nat) (g : Nat → Int) : PV → List Row → Prop := fun r rows => ∃ (at' : Int) (k : Nat) (l : List Df), 0 ≤ at' ∧ at' ≤ n ∧ l.length = k + 1 ∧ AGood wild h l ∧ r = .agg 2 (nthP [vs n_metal, .lsl 2 0 (k + 1)]) ∧ rows = [tapeRow n g at', rA (k + 1) 2, oRow cD 21 (k + 1) (lF dD l)]
theorem AGood.l1 {wild : Bool} {h : Nat} {l : List Df} (hA : AGood wild h l) : l.length ≤ 30 := hA.len
theorem pread_aggs2 {tab : List TI} {st : PSt} {t : Nat} {x : Operand} {l i n sz m : Nat} {one : Bool} {f : Nat → Nat → PV} {q : List PV} (hx : st.ev x = .ptr l i 0) (hr : rowAt st.mem l = some ⟨.own, one, n, sz, f⟩) (hk : (tget tab t).k.isAgg = true) (hm : (tget tab t).sz = m) (hs : Nat.ble (0 + m) sz = true) (hq : q.length = m) (hf : ∀ j, j < m → f i j = nthP q j) : pread tab st (.load t x) = some (.agg m (nthP q), i < n) := by
  have e : (List.range' 0 m).map (fun y => f i (0 + y)) = q := by
    apply List.ext_getElem
    · simp [hq]
    · intro k h1 h2
      simp at h1
      simp only [List.getElem_map, List.getElem_range']
      rw [show 0 + (0 + 1 * k) = k by omega, hf k h1]
      have : ∀ (L : List PV) (k : Nat) (h : k < L.length), nthP L k = L[k] := by
        intro L
        induction L with
        | nil => intro k h; simp at h
        | cons y L ih =>
          intro k h
          cases k with
          | zero => rfl
          | succ k => simp only [nthP, List.getElem_cons_succ]; exact ih k (by simpa using h)
      exact this q k h2
  simp only [pread, hx, str, hr, Row.ok, pload, hk, hm, hs, forceL_eq, rmap, strP, cond_true, e]
abbrev dS : Int × Int := (0, 1)
theorem st3_row {x : Int} (h1 : 0 ≤ x) (h2 : x < 3 ∨ x = 0) (j : Nat) (hj : j < 2) : nthP [vi 1, vi 100, vi 1, vi 20, vi 1, vi 1] ((0 + x.toNat) * 2 + j) = nthP [vi (lF dS stepL x.toNat).1, vi (lF dS stepL x.toNat).2] j := by
  obtain ⟨k, rfl⟩ : ∃ k : Nat, x = k := ⟨x.toNat, by omega⟩
  rcases (by omega : k = 0 ∨ k = 1 ∨ k = 2) with rfl | rfl | rfl <;> rcases (by omega : j = 0 ∨ j = 1) with rfl | rfl <;> rfl
theorem st3_mem {x : Int} (h1 : 0 ≤ x) (h2 : x < 3 ∨ x = 0) : lF dS stepL x.toNat ∈ stepL := by
  obtain ⟨k, rfl⟩ : ∃ k : Nat, x = k := ⟨x.toNat, by omega⟩
  rcases (by omega : k = 0 ∨ k = 1 ∨ k = 2) with rfl | rfl | rfl <;> simp [lF, stepL]
theorem nmP_row {v : Nat} (hv : v ≤ 1) : nthP [vs n_a, vs n_b] ((0 + (v : Int).toNat) * 1 + 0) = vs (lF ⟨#[]⟩ nmsP v) := by
  rcases (by omega : v = 0 ∨ v = 1) with rfl | rfl <;> rfl
theorem pay_tab3 {v : Nat} (hv : v ≤ 1) : (lF ⟨#[]⟩ nmsP v, (4 : Int), t0) ∈ tabL ∧ (lF ⟨#[]⟩ nmsP v).size ≤ 100 ∧ lF dK KS (16 + v) = (lF ⟨#[]⟩ nmsP v, 20454) := by
  rcases (by omega : v = 0 ∨ v = 1) with rfl | rfl
  · exact ⟨mm, by decide, rfl⟩
  · exact ⟨mm, by decide, rfl⟩
set_option maxHeartbeats 8000000 in
theorem agr_swap (wild : Bool) (h : Nat) (n : Nat) (g : Nat → Int) (hn : n ≤ 9223372036854775807) (Γ : Fr) (hk : Γ.k0 = 1) (at_ : Int) (k : Nat) (l : List Df) (b1 : 0 ≤ at_) (b2 : at_ ≤ n) (hlk : l.length = k + 1) (hA : AGood wild h l) :
    PWp G.toPg Try.f6.ntmps Γ (dropS 8 (Try.f6.body.getD .skip)) ⟨[(0, .ptr 0 0 0), (6, .ptr 1 0 0), (7, .ptr 2 0 0)], [tapeRow n g at_, rZA, rA (k + 1) 3, vRow cD 21 (k + 1) (lF dD l)]⟩ (KretR Try.f6.ntmps Γ G.tab Try.f6.results.toList 1 (agrPost wild h n g)) := by
  repeat' (first | refine yo ?_ ?_ | refine yw ?_ ?_ | refine yk ?_ ?_ | exact trivial | with_reducible refine wA ?_ ?_ | refine ys ?_ ?_ | refine xs_done ?_ | refine yl ?_ ?_ | (refine tn1 hn ?_; rintro at_ b1 b2 x hx1 hx2) | refine w8 ?_ | refine w9 ?_ | refine w1 ?_ | refine w2 ?_ | refine w3 ?_ | refine w4 ?_ | refine w5 ?_ | refine w6 ?_ | refine w7 ?_ | refine yo0 ?_ ?_ | refine yw0 ?_ ?_ | exact qq | fail)
  refine pcan (st' := ⟨[(0, .ptr 0 0 0), (6, .ptr 1 0 0), (7, .ptr 2 0 0), (14, vi x)], [tapeRow n g at_, rZA, rA (k + 1) 3, vRow cD 21 (k + 1) (lF dD l)]⟩) (can_rowsv [0, 1, 2, 3] (k0_sel hk rfl) rfl (.cons rfl (RowEq.cl (tape_cl _ _ _)) (.cons rfl rqq (.cons rfl rqq (.cons rfl (RowEq.cl (v_cl cD_cl _ _ _)) .nil)))) tmq) ?_
  refine ploop (fun q st => ∃ (at' y : Int) (l : List Df), 0 ≤ at' ∧ at' ≤ n ∧ 0 ≤ y ∧ y ≤ 3 ∧ q = y.toNat ∧ l.length = k + 1 ∧ AGood wild h l ∧ st = ⟨[(0, .ptr 0 0 0), (6, .ptr 1 0 0), (7, .ptr 2 0 0), (14, vi y)], [tapeRow n g at', rZA, rA (k + 1) 3, vRow cD 21 (k + 1) (lF dD l)]⟩) x.toNat ⟨at_, x, l, b1, b2, hx1, by omega, rfl, hlk, hA, rfl⟩ ?_
  clear hlk hA b1 b2 hx1 hx2
  rintro _ _ ⟨at', y, l, b1, b2, hy0, hy3, rfl, hlk, hA, rfl⟩
  have hk30 := hA.l1
  have hwy : IntKind.i64.wrap (y - 1) = y - 1 := w64 (by omega) (by omega)
  repeat' (first | refine yo ?_ ?_ | refine yw ?_ ?_ | refine yk ?_ ?_ | exact trivial | with_reducible refine wA ?_ ?_ | refine ys ?_ ?_ | refine xs_done ?_ | refine yl ?_ ?_ | refine w8 ?_ | refine w9 ?_ | refine w1 ?_ | refine w2 ?_ | refine w3 ?_ | refine w4 ?_ | refine w5 ?_ | refine w6 ?_ | refine w7 ?_ | refine yo0 ?_ ?_ | refine yw0 ?_ ?_ | exact qq | fail)
  refine pcond rfl ?_ ?_ <;> intro hc <;> simp at hc
  · repeat' (first | refine yo ?_ ?_ | refine yw ?_ ?_ | refine yk ?_ ?_ | exact trivial | with_reducible refine wA ?_ ?_ | refine ys ?_ ?_ | refine xs_done ?_ | refine yl ?_ ?_ | refine xs_start (id := 24) true [.take 0, .take 1, .take 2, .take 3, .take 5, .take 6, .take 7, .take 8, .one 4, .one 9, .take 10, .take 11] 0 rfl rfl (by kernel_rfl) ?_ | refine xs_startH (id := 25) [1,2] false [.take 0, .take 1, .take 2, .take 3, .take 4, .take 5, .take 6, .take 7, .take 8, .take 11, .take 12, .take 13] 8 rfl (by kernel_rfl) ?_ | refine BrAll.cons ?_ ?_ | exact BrAll.nil | refine xs_brT (n := 20) [0, 1, 2, 3, 4, 5, 6, 7, 8, 11, 12, 13] [(9, [], false, 7), (14, [], false, 7)] (by decide +kernel) rfl (by kernel_rfl) (by kernel_rfl) ?_ | refine xs_brT (n := 20) [0, 1, 2, 3, 4, 5, 6, 7, 8, 11, 12, 13, 14] [(9, [], false, 6), (15, [.one 9, .one 10, .one 16, .one 17, .one 18, .one 19], true, 0)] (by decide +kernel) rfl (by kernel_rfl) (by kernel_rfl) ?_ | refine xs_brT (n := 20) [0, 1, 2, 3, 4, 5, 6, 7, 8, 9, 11, 12, 13, 14] [(10, [.one 15, .one 16, .one 17, .one 18, .one 19], true, 0), (15, [.one 10, .one 16, .one 17, .one 18, .one 19], true, 0)] (by decide +kernel) rfl (by kernel_rfl) (by kernel_rfl) ?_ | refine xs_brT (n := 20) [0, 1, 2, 3, 4, 5, 6, 7, 8, 9, 11, 12, 13] [(10, [.one 14, .one 15, .one 16, .one 17, .one 18, .one 19], true, 0), (14, [], false, 6)] (by decide +kernel) rfl (by kernel_rfl) (by kernel_rfl) ?_ | refine ⟨_, [], true, rfl, rfl, stepOp_pst rfl ?_ ?_⟩ | (refine tn2 hn ?_; rintro at_ b1 b2 x hx1 hx2) | refine w8 ?_ | refine w9 ?_ | refine w1 ?_ | refine w2 ?_ | refine w3 ?_ | refine w4 ?_ | refine w5 ?_ | refine w6 ?_ | refine w7 ?_ | refine yo0 ?_ ?_ | refine yw0 ?_ ?_ | exact qq | fail)
    all_goals
      rename_i at1 c1 c2 xn hn1 hn2
      have e1 : xn.toNat < l.length := by omega
      have e2 : x.toNat < l.length := by omega
      refine xdone ?_
      rw [hwy]
      exact kloop_next (st' := ⟨[(0, .ptr 0 0 0), (6, .ptr 1 0 0), (7, .ptr 2 0 0), (14, vi (y - 1))], [tapeRow n g _, rZA, rA (k + 1) 3, vRow cD 21 (k + 1) (lF dD (swpL l xn.toNat x.toNat))]⟩) (y - 1).toNat (can_rowsv [0, 1, 2, 3] (k0_sel hk rfl) rfl (.cons rfl (RowEq.cl (tape_cl _ _ _)) (.cons rfl rqq (.cons rfl rqq (.cons rfl (swp_eq e1 e2 (Nat.zero_add _) (Nat.zero_add _) rfl rfl) .nil)))) tmq) (by omega) ⟨_, y - 1, _, by assumption, by assumption, by omega, by omega, rfl, by rw [swpL_len]; exact hlk, hA.perm (swpL_perm e1 e2), rfl⟩
  · repeat' (first | refine yo ?_ ?_ | refine yw ?_ ?_ | refine yk ?_ ?_ | exact trivial | with_reducible refine wA ?_ ?_ | refine ys ?_ ?_ | refine xs_done ?_ | refine yl ?_ ?_ | refine w8 ?_ | refine w9 ?_ | refine w1 ?_ | refine w2 ?_ | refine w3 ?_ | refine w4 ?_ | refine w5 ?_ | refine w6 ?_ | refine w7 ?_ | refine yo0 ?_ ?_ | refine yw0 ?_ ?_ | exact qq | fail)
    refine xdone ?_
    exact kretr (st' := ⟨[(6, .ptr 1 0 0)], [tapeRow n g at', rA (k + 1) 2, oRow cD 21 (k + 1) (lF dD l)]⟩) (can_rowsv [0, 1, 3] (k0_sel hk rfl) rfl (.cons rfl (RowEq.cl (tape_cl _ _ _)) (.cons rfl rqq (.cons rfl (RowEq.cl (o_cl cD_cl _ _ _)) .nil))) tmq) rfl ⟨Nat.zero_lt_one, trivial⟩ rfl ⟨at', k, l, b1, b2, hlk, hA, rfl, rfl⟩
end Go.Proofs.Ytcefhgomkehokaa
