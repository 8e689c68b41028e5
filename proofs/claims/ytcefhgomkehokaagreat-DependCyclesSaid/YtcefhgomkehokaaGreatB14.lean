/- The reference's Downstream. -/
import Derived.Test.YtcefhgomkehokaaGreatB13
import Derived.Test.YtcefhgomkehokaaGreatB09
import Derived.Test.YtcefhgomkehokaaGreatB06
import Derived.Test.YtcefhgomkehokaaGreatB11
import Derived.Test.YtcefhgomkehokaaGreatB08
import Derived.Test.YtcefhgomkehokaaGreatB07
import Derived.Test.YtcefhgomkehokaaGreatB12
set_option linter.unusedSimpArgs false
set_option linter.unusedVariables false
set_option maxRecDepth 100000
namespace Go.Proofs.YtcefhgomkehokaaGreat
theorem ment_eq {l : List Df} {A : List Int} (hin : ∀ x, x ∈ A → 0 ≤ x ∧ x < l.length) {e : Ex} {s : ByteArray} (h : (refsE e).all (fun r => (meanI l A r).isSome) = true) : (refsE e).any (mentR l A s) = mentS e s := by
  unfold mentS
  have key : ∀ L : List Ex, L.all (fun r => (meanI l A r).isSome) = true → L.any (mentR l A s) = L.any (mentB s) := by
    intro L
    induction L with
    | nil => intro _; rfl
    | cons r L ih =>
      intro h
      rw [List.all_cons, Bool.and_eq_true] at h
      rw [List.any_cons, List.any_cons, ih h.2]
      congr 1
      unfold mentR mentB
      obtain ⟨j, hj⟩ := Option.isSome_iff_exists.1 h.1
      have hg := meanI_ge hin hj
      have : decide (0 ≤ mnE l A r) = true := decide_eq_true (by unfold mnE; rw [hj]; exact hg)
      rw [this, Bool.and_true]
  exact key _ h
theorem dnIn_take {L : List (Int × List Int)} {nx : Int} {F N : List Int} {q : Nat} (hq : q < N.length) : dnIn L nx F (N.take (q + 1)) = dnStep L nx (dnIn L nx F (N.take q)) (lF 0 N q) := by
  rw [List.take_succ_eq_append_getElem hq, dnIn_snoc, lF_get' hq]
theorem dnF_end {N : List Int} {L : List (Int × List Int)} {f p : Nat} {F : List Int} (h : F.length ≤ p) : dnF N L f p F = F := by
  cases f with
  | zero => rfl
  | succ f => rw [dnF, if_neg (by omega)]
theorem dnF_on {N : List Int} {L : List (Int × List Int)} {f p : Nat} {F : List Int} (h : p < F.length) : dnF N L (f + 1) p F = dnF N L f (p + 1) (dnIn L (lF 0 F p) F N) := by rw [dnF, if_pos h]
set_option maxHeartbeats 16000000 in
theorem Downstream21_c (nm : ByteArray) (l : List Df) (day : Int) (s : ByteArray) (h : AgO nm l) (hl : l.length ≤ 900000) : PureC G.P 35 [vA nm l, vi day, vs s] (fun r => r = sV (DwnS nm l day s)) := by
  have cO := Order21_c nm l day h hl
  have cA := Active21_c nm l day h (by omega)
  by_cases hg : gErr nm l day = 0
  · have hck := gErr_chk' hg
    have ha := chk_valid hck
    have hAS : ActS nm l day = actL l day := by unfold ActS; rw [if_pos hck]
    have hO2 : (OrdS nm l day).2 = 0 ∨ (OrdS nm l day).2 = 11 := by unfold OrdS; rw [if_neg (fun hh => hh hg)]; exact ord_err _ _
    have hD : DwnS nm l day s = (nodS l day).filter fun x => decide (x ∈ dnF (nodS l day) (mapL l (actL l day) (nodS l day)) ((nodS l day).length + 1) 0 (dn0 l s (nodS l day))) := by unfold DwnS; rw [if_neg (fun hh => hh hg)]; rfl
    have hgA : (nodS l day).all (fun x => decide ((needS l (actL l day) x.toNat).2 = 0)) = true := by
      unfold gErr at hg
      rw [if_neg (fun hh => hh hck)] at hg
      by_cases hx : (nodL l (actL l day)).all (fun x => decide ((needS l (actL l day) x.toNat).2 = 0)) = true
      · exact hx
      · rw [if_neg hx] at hg; exact absurd hg (by decide)
    rw [hD]
    have hAl := actL_len l day
    have hin := actL_in (l := l) (day := day)
    have hNl : (nodS l day).length ≤ l.length := nodS_len l day
    have hNnd := nodS_nd l day
    have hNm : ∀ x, x ∈ nodS l day → x ∈ actL l day ∧ comp (lF dD l x.toNat) = true := fun x hx => List.mem_filter.1 hx
    have cR := routines21_c nm l (actL l day) (by omega) (by omega) hin
    have cR : PureC G.P 52 [vA nm l, sV (actL l day)] (fun r => r = sV (nodS l day)) := cR
    rw [hAS] at cA
    generalize (OrdS nm l day).1 = Oo at cO
    generalize (OrdS nm l day).2 = Oe at cO hO2
    clear hD
    generalize nodS l day = N at *
    generalize actL l day = A at *
    obtain ⟨W, hW⟩ : ∃ W, W = Wof l A N := ⟨_, rfl⟩
    have hNx : ∀ a, a < N.length → lF 0 N a ∈ A ∧ comp (lF dD l (lF 0 N a).toNat) = true ∧ 0 ≤ lF 0 N a ∧ lF 0 N a < l.length := fun a ha2 => by
      have h1 := hNm (lF 0 N a) (by rw [lF_get' ha2]; exact List.getElem_mem ha2)
      exact ⟨h1.1, h1.2, hin _ h1.1⟩
    have hal : ∀ a, a < N.length → (refsE (lF dD l (lF 0 N a).toNat).body).all (fun e => (meanI l A e).isSome) = true := fun a ha2 => by
      have h1 := of_decide_eq_true (List.all_eq_true.1 hgA (lF 0 N a) (by rw [lF_get' ha2]; exact List.getElem_mem ha2))
      cases hx : (refsE (lF dD l (lF 0 N a).toNat).body).all (fun e => (meanI l A e).isSome) with
      | true => rfl
      | false => rw [needS_no hx] at h1; exact absurd h1 (by decide)
    have hsg : ∀ a, a < N.length → sget (mapL l A N) (lF 0 N a) = W a := fun a ha2 => by
      rw [sget_mapL (by rw [lF_get' ha2]; exact List.getElem_mem ha2), needS_ok (hal a ha2), hW]
    have hWl : ∀ a, (W a).length ≤ 1000000 := fun a => by
      rw [hW]
      have h1 : (needL l A (refsE (lF dD l (lF 0 N a).toNat).body)).length ≤ A.length := needL_len
      show (needL l A (refsE (lF dD l (lF 0 N a).toNat).body)).length ≤ _
      omega
    refine pure_of (G := G.toPg) (fn := Tryz.f35) Tryz.func35 rfl rfl rfl ?_; intro Γ hk
    repeat' (first | refine gg ?_ | exact trivial | with_reducible refine wA ?_ ?_ | refine Y2.mk ?_ ?_ | (refine pop_callc [] rfl rfl rfl rfl rfl rfl (fun _ h => by cases h) (cO) (args_cl _ rfl) ?_; rintro _ rfl) | refine gh ?_ | exact qq | fail)
    refine pcond (b := false) ?_ ?_ ?_
    · refine eqB ?_
      rcases hO2 with rfl | rfl <;> rfl
    · intro h5; cases h5
    · intro h5
      obtain ⟨p, hp⟩ : ∃ p : Int → Bool, p = fun x => mentS (lF dD l x.toNat).body s := ⟨_, rfl⟩
      repeat' (first | refine gg ?_ | exact trivial | with_reducible refine wA ?_ ?_ | refine Y2.mk ?_ ?_ | (refine pop_callc [] rfl rfl rfl rfl rfl rfl (fun _ h => by cases h) (cA) (args_cl _ rfl) ?_; rintro _ rfl) | (refine pop_callc [] rfl rfl rfl rfl rfl rfl (fun _ h => by cases h) (cR) (args_cl _ rfl) ?_; rintro _ rfl) | refine gh ?_ | exact qq | fail)
      refine pcan (can_virt (vRow c1 1 0 (lF 0 [])) rfl) ?_
      refine pcan (st' := ⟨[(2, vs s), (3, .ptr 0 0 0), (9, sV A), (10, sV N), (11, slP 0 1), (12, vi ((0 : Nat) : Int))], [rA1 nm l, vRow c1 1 0 (lF 0 ((N.take 0).filter p))]⟩) (can_rowsv [0, 1] (k0_sel hk rfl) rfl (.cons rfl (RowEq.cl (rA1_cl _ _)) (.cons rfl (RowEq.cl (v_cl c1_cl _ _ _)) .nil)) tmq) ?_
      refine ploop (fun z st => ∃ q k : Nat, q ≤ N.length ∧ ((N.take q).filter p).length = k ∧ z = N.length - q ∧ st = ⟨[(2, vs s), (3, .ptr 0 0 0), (9, sV A), (10, sV N), (11, slP k 1), (12, vi q)], [rA1 nm l, vRow c1 1 k (lF 0 ((N.take q).filter p))]⟩) N.length ⟨0, 0, by omega, rfl, by omega, rfl⟩ ?_
      rintro _ _ ⟨q, k, hq, hk2, rfl, rfl⟩
      have hw1 : IntKind.i64.wrap ((q : Int) + 1) = ((q + 1 : Nat) : Int) := w64 (by omega) (by omega)
      have hkl := filter_take_len (p := p) (L := N) (q := q)
      repeat' (first | refine gg ?_ | exact trivial | with_reducible refine wA ?_ ?_ | refine Y2.mk ?_ ?_ | refine gh ?_ | exact qq | fail)
      refine pcond rfl ?_ ?_ <;> intro hc
      · have hc : q < N.length := by have := of_decide_eq_true hc; omega
        obtain ⟨x1, x2, x3⟩ := hNx q hc
        have cm := mentions21_c nm l A (by omega) (by omega) hin s 32 (lF dD l (lF 0 N q).toNat).body (h.body ha (by omega) x2).1
        have hf := filter_take (p := p) hc
        repeat' (first | refine gg ?_ | exact trivial | with_reducible refine wA ?_ ?_ | refine Y2.mk ?_ ?_ | refine xs_start (id := 10) true [.take 0, .take 1, .take 2, .take 3, .take 4, .take 5, .take 6, .take 7, .take 8, .take 9, .take 10, .take 11, .one 12] 0 rfl rfl (by kernel_rfl) ?_ | refine xs_start (id := 18) true [.take 0, .take 1, .take 2, .take 3, .take 4, .take 5, .one 6, .take 7, .take 8, .take 9, .take 10, .take 11] 0 rfl rfl (by kernel_rfl) ?_ | exact x3 | (exact (show (lF 0 N q).toNat < l.length by omega)) | refine zz cm ?_ | refine gh ?_ | exact qq | fail)
        refine pcond (b := p (lF 0 N q)) ?_ ?_ ?_
        · refine eqB ?_
          rw [hp]
          exact ment_eq hin (hal q hc)
        · intro h1
          rw [if_pos h1] at hf
          rcases k with _ | k
          · repeat' (first | refine gg ?_ | exact trivial | with_reducible refine wA ?_ ?_ | refine Y2.mk ?_ ?_ | exact ⟨Nat.le_refl _, (by rw [hk]; exact Nat.le_of_ble_eq_true rfl), Nat.le_of_eq (Nat.zero_add _), (show (_ : Nat) * 8 ≤ 140737488355328 from by omega), (show (_ : Nat) ≤ 9223372036854775807 from by omega)⟩ | (exact (show (_ : Nat) < _ by omega)) | refine gh ?_ | exact qq | fail)
            refine xdone ?_
            rw [hw1]
            exact kloop_next (st' := ⟨[(2, vs s), (3, .ptr 0 0 0), (9, sV A), (10, sV N), (11, slP (0 + 1) 1), (12, vi ((q + 1 : Nat) : Int))], [rA1 nm l, vRow c1 1 (0 + 1) (lF 0 ((N.take q).filter p ++ [lF 0 N q]))]⟩) (N.length - (q + 1)) (can_rowsv [0, 3] (k0_sel hk rfl) rfl (.cons rfl (RowEq.cl (rA1_cl _ _)) (.cons rfl (app_l0 c1_cl hk2 rfl) .nil)) tmq) (by omega) ⟨q + 1, 0 + 1, by omega, by rw [hf, List.length_append, hk2]; rfl, rfl, by rw [hf]⟩
          · repeat' (first | refine gg ?_ | exact trivial | with_reducible refine wA ?_ ?_ | refine Y2.mk ?_ ?_ | exact ⟨Nat.le_refl _, (by rw [hk]; exact Nat.le_of_ble_eq_true rfl), Nat.le_of_eq (Nat.zero_add _), (show (_ : Nat) * 8 ≤ 140737488355328 from by omega), (show (_ : Nat) ≤ 9223372036854775807 from by omega)⟩ | (exact (show (_ : Nat) < _ by omega)) | refine gh ?_ | exact qq | fail)
            refine xdone ?_
            rw [hw1]
            exact kloop_next (st' := ⟨[(2, vs s), (3, .ptr 0 0 0), (9, sV A), (10, sV N), (11, slP (k + 1 + 1) 1), (12, vi ((q + 1 : Nat) : Int))], [rA1 nm l, vRow c1 1 (k + 1 + 1) (lF 0 ((N.take q).filter p ++ [lF 0 N q]))]⟩) (N.length - (q + 1)) (can_rowsv [0, 3] (k0_sel hk rfl) rfl (.cons rfl (RowEq.cl (rA1_cl _ _)) (.cons rfl (app_l c1_cl hk2 rfl rfl) .nil)) tmq) (by omega) ⟨q + 1, k + 1 + 1, by omega, by rw [hf, List.length_append, hk2]; rfl, rfl, by rw [hf]⟩
        · intro h1
          rw [if_neg (by rw [h1]; decide), List.append_nil] at hf
          repeat' (first | refine gg ?_ | exact trivial | with_reducible refine wA ?_ ?_ | refine Y2.mk ?_ ?_ | refine gh ?_ | exact qq | fail)
          refine xdone ?_
          rw [hw1]
          exact kloop_next (st' := ⟨[(2, vs s), (3, .ptr 0 0 0), (9, sV A), (10, sV N), (11, slP k 1), (12, vi ((q + 1 : Nat) : Int))], [rA1 nm l, vRow c1 1 k (lF 0 ((N.take q).filter p))]⟩) (N.length - (q + 1)) (can_rowsv [0, 1] (k0_sel hk rfl) rfl (.cons rfl (RowEq.cl (rA1_cl _ _)) (.cons rfl (RowEq.cl (v_cl c1_cl _ _ _)) .nil)) (by exact ⟨PEq.refl _, PEq.refl _, PEq.refl _, PEq.refl _, peq_slP rfl, PEq.refl _, trivial⟩)) (by omega) ⟨q + 1, k, by omega, by rw [hf]; exact hk2, rfl, by rw [hf]⟩
      · have hql : q = N.length := by have := of_decide_eq_false hc; omega
        subst hql
        have hF0 : (N.take N.length).filter p = dn0 l s N := by rw [List.take_length, hp]; rfl
        have hI0 : InvN N (dn0 l s N) := ⟨hNnd.filter _, fun x hx => (List.mem_filter.1 hx).1⟩
        rw [hF0] at hk2
        rw [hF0]
        generalize dn0 l s N = F0 at *
        repeat' (first | refine gg ?_ | exact trivial | with_reducible refine wA ?_ ?_ | refine Y2.mk ?_ ?_ | refine gh ?_ | exact qq | fail)
        refine pcan (st' := ⟨[(3, .ptr 0 0 0), (9, sV A), (10, sV N), (11, slP k 1), (13, vi ((0 : Nat) : Int))], [rA1 nm l, vRow c1 1 k (lF 0 F0)]⟩) (can_rowsv [0, 1] (k0_sel hk rfl) rfl (.cons rfl (RowEq.cl (rA1_cl _ _)) (.cons rfl (RowEq.cl (v_cl c1_cl _ _ _)) .nil)) (by exact ⟨PEq.refl _, PEq.refl _, PEq.refl _, peq_slP rfl, PEq.refl _, trivial⟩)) ?_
        refine pcutx (fun st => ∃ (k : Nat) (F : List Int), F.length = k ∧ InvN N F ∧ dnF N (mapL l A N) (N.length + 1) 0 F0 = F ∧ st = ⟨[(10, sV N), (11, slP k 0)], [vRow c1 1 k (lF 0 F)]⟩) ?_ ?_
        · refine ploop (fun z st => ∃ (p k f : Nat) (F : List Int), F.length = k ∧ InvN N F ∧ p + f = N.length + 1 ∧ dnF N (mapL l A N) (N.length + 1) 0 F0 = dnF N (mapL l A N) f p F ∧ z = f ∧ st = ⟨[(3, .ptr 0 0 0), (9, sV A), (10, sV N), (11, slP k 1), (13, vi p)], [rA1 nm l, vRow c1 1 k (lF 0 F)]⟩) (N.length + 1) ⟨0, k, N.length + 1, F0, hk2, hI0, Nat.zero_add _, rfl, rfl, rfl⟩ ?_
          clear hk2
          rintro z _ ⟨p, k, f, F, hFk, hI, hpf, hdn, hz, rfl⟩
          have hz := hz.symm
          subst hz
          have hFl := hI.len
          rcases k with _ | k
          · repeat' (first | refine gg ?_ | exact trivial | with_reducible refine wA ?_ ?_ | refine Y2.mk ?_ ?_ | refine gh ?_ | exact qq | fail)
            refine kblock_hit rfl ?_
            exact kcut (st' := ⟨[(10, sV N), (11, slP 0 0)], [vRow c1 1 0 (lF 0 F)]⟩) (can_rowsv [1] (k0_sel hk rfl) rfl (.cons rfl (RowEq.cl (v_cl c1_cl _ _ _)) .nil) tmq) ⟨0, F, hFk, hI, by rw [hdn]; exact dnF_end (by omega), rfl⟩
          · have hwp : IntKind.i64.wrap ((p : Int) + 1) = ((p + 1 : Nat) : Int) := w64 (by omega) (by omega)
            repeat' (first | refine gg ?_ | exact trivial | with_reducible refine wA ?_ ?_ | refine Y2.mk ?_ ?_ | refine gh ?_ | exact qq | fail)
            refine pcond rfl ?_ ?_ <;> intro hc
            · have hc : p < F.length := by have : (p : Int) < ((k + 1 : Nat) : Int) := of_decide_eq_true hc; omega
              obtain ⟨f, rfl⟩ : ∃ f', f = f' + 1 := ⟨f - 1, by omega⟩
              rw [dnF_on hc] at hdn
              repeat' (first | refine gg ?_ | exact trivial | with_reducible refine wA ?_ ?_ | refine Y2.mk ?_ ?_ | refine gh ?_ | exact qq | fail)
              refine pcan (st' := ⟨[(3, .ptr 0 0 0), (9, sV A), (10, sV N), (11, slP (k + 1) 1), (13, vi p), (14, vi ((0 : Nat) : Int))], [rA1 nm l, vRow c1 1 (k + 1) (lF 0 F)]⟩) (can_rowsv [0, 1] (k0_sel hk rfl) rfl (.cons rfl (RowEq.cl (rA1_cl _ _)) (.cons rfl (RowEq.cl (v_cl c1_cl _ _ _)) .nil)) tmq) ?_
              obtain ⟨nx, hnx⟩ : ∃ nx, lF 0 F p = nx := ⟨_, rfl⟩
              rw [hnx] at hdn
              refine ploop (fun z st => ∃ (q k2 : Nat) (F2 : List Int), q ≤ N.length ∧ F2 = dnIn (mapL l A N) nx F (N.take q) ∧ F2.length = k2 + 1 ∧ p < F2.length ∧ InvN N F2 ∧ lF 0 F2 p = nx ∧ z = N.length - q ∧ st = ⟨[(3, .ptr 0 0 0), (9, sV A), (10, sV N), (11, slP (k2 + 1) 1), (13, vi p), (14, vi q)], [rA1 nm l, vRow c1 1 (k2 + 1) (lF 0 F2)]⟩) N.length ⟨0, k, F, Nat.zero_le _, rfl, hFk, hc, hI, hnx, rfl, rfl⟩ ?_
              rintro _ _ ⟨q, k2, F2, hq, hF2, hF2k, hpF, hI2, hnx2, rfl, rfl⟩
              have hF2l := hI2.len
              have hwq : IntKind.i64.wrap ((q : Int) + 1) = ((q + 1 : Nat) : Int) := w64 (by omega) (by omega)
              repeat' (first | refine gg ?_ | exact trivial | with_reducible refine wA ?_ ?_ | refine Y2.mk ?_ ?_ | refine gh ?_ | exact qq | fail)
              refine pcond rfl ?_ ?_ <;> intro hcq
              · have hcq : q < N.length := by have := of_decide_eq_true hcq; omega
                obtain ⟨x1, x2, x3⟩ := hNx q hcq
                have hxN : lF 0 N q ∈ N := by rw [lF_get' hcq]; exact List.getElem_mem hcq
                have cn := needsI_c nm l A (lF 0 N q) x3 (by omega) (by omega) hin (h.body ha (by omega) x2)
                have ch := has_c (W q) nx (hWl q)
                have ch2 := has_c F2 (lF 0 N q) (by omega)
                rw [show sV F2 = .vsl (k2 + 1) 1 (tI (lF 0 F2)) from by show PV.vsl _ _ _ = _; rw [hF2k]] at ch2
                have hz : 0 + (p : Int).toNat = p := by omega
                have hst := dnIn_take (L := mapL l A N) (nx := nx) (F := F) hcq
                rw [← hF2] at hst
                unfold dnStep at hst
                rw [hsg q hcq] at hst
                have hWq : W q = needL l A (refsE (lF dD l (lF 0 N q).toNat).body) := by rw [hW]
                rw [← hWq] at cn
                repeat' (first | refine gg ?_ | exact trivial | with_reducible refine wA ?_ ?_ | refine Y2.mk ?_ ?_ | refine xs_start (id := 10) true [.take 0, .take 1, .take 2, .take 3, .take 4, .take 5, .take 6, .take 7, .take 8, .take 9, .take 10, .take 11, .one 12] 0 rfl rfl (by kernel_rfl) ?_ | refine xs_startH (id := 18) [0,1] true [.take 0, .take 1, .take 2, .take 3, .take 4, .take 5, .one 6, .take 7, .take 8, .take 9, .take 10, .take 11] 0 rfl (by kernel_rfl) ?_ | (refine xs_one (ch := []) rfl rfl rfl (pst_rowsc [] rfl rfl rfl rfl rfl rfl .nil (pure_rows (cn)) (by exact ⟨PEq.cl _ (clB_spec _ rfl), PEq.cl _ (clB_spec _ rfl), PEq.cl _ (clB_spec _ rfl), trivial⟩) ?_); rintro r rows ⟨rfl, rfl⟩; refine ⟨_, _, rfl, trivial, rfl, ?_⟩) | (exact (show 0 + (p : Int).toNat < k2 + 1 by omega)) | refine gh ?_ | exact qq | fail)
                rw [hz, hnx2]
                by_cases hm : nx ∈ W q
                · rw [decide_eq_true hm] at ch
                  by_cases hm2 : lF 0 N q ∈ F2
                  · rw [decide_eq_true hm2] at ch2
                    rw [if_neg (fun hh => hh.1 hm2)] at hst
                    repeat' (first | refine gg ?_ | exact trivial | with_reducible refine wA ?_ ?_ | refine Y2.mk ?_ ?_ | (intro hh; exact ⟨hh, by omega, by omega⟩) | refine zz ch ?_ | refine gh ?_ | exact qq | fail)
                    refine pop_opt 92 rfl rfl ?_
                    refine pop_opt 96 rfl rfl ?_
                    refine pop_unguard rfl rfl ?_
                    refine pop_call [1] rfl rfl rfl rfl rfl ch2 (by exact ⟨argTI (arg_v (n := k2 + 1) (l := 1) c1_cl rfl (List.Mem.head _)), argVal, trivial⟩) ?_
                    rintro _ rfl
                    refine ⟨scB_spec _ rfl, ?_⟩
                    repeat' (first | refine gg ?_ | exact trivial | with_reducible refine wA ?_ ?_ | refine Y2.mk ?_ ?_ | refine gh ?_ | exact qq | fail)
                    refine xdone ?_
                    rw [hwq]
                    exact kloop_next (st' := ⟨[(3, .ptr 0 0 0), (9, sV A), (10, sV N), (11, slP (k2 + 1) 1), (13, vi p), (14, vi ((q + 1 : Nat) : Int))], [rA1 nm l, vRow c1 1 (k2 + 1) (lF 0 F2)]⟩) (N.length - (q + 1)) (can_rowsv [0, 1] (k0_sel hk rfl) rfl (.cons rfl (RowEq.cl (rA1_cl _ _)) (.cons rfl (RowEq.cl (v_cl c1_cl _ _ _)) .nil)) tmq) (by omega) ⟨q + 1, k2, F2, by omega, hst.symm, hF2k, hpF, hI2, hnx2, rfl, rfl⟩
                  · rw [decide_eq_false hm2] at ch2
                    rw [if_pos ⟨hm2, hm⟩] at hst
                    repeat' (first | refine gg ?_ | exact trivial | with_reducible refine wA ?_ ?_ | refine Y2.mk ?_ ?_ | (intro hh; exact ⟨hh, by omega, by omega⟩) | refine zz ch ?_ | refine gh ?_ | exact qq | fail)
                    refine pop_opt 92 rfl rfl ?_
                    refine pop_opt 96 rfl rfl ?_
                    refine pop_unguard rfl rfl ?_
                    refine pop_call [1] rfl rfl rfl rfl rfl ch2 (by exact ⟨argTI (arg_v (n := k2 + 1) (l := 1) c1_cl rfl (List.Mem.head _)), argVal, trivial⟩) ?_
                    rintro _ rfl
                    refine ⟨scB_spec _ rfl, ?_⟩
                    repeat' (first | refine gg ?_ | exact trivial | with_reducible refine wA ?_ ?_ | refine Y2.mk ?_ ?_ | exact ⟨Nat.le_refl _, (by rw [hk]; exact Nat.le_of_ble_eq_true rfl), Nat.le_of_eq (Nat.zero_add _), (show (_ : Nat) * 8 ≤ 140737488355328 from by omega), (show (_ : Nat) ≤ 9223372036854775807 from by omega)⟩ | (exact (show (_ : Nat) < _ by omega)) | refine gh ?_ | exact qq | fail)
                    refine xdone ?_
                    rw [hwq]
                    exact kloop_next (st' := ⟨[(3, .ptr 0 0 0), (9, sV A), (10, sV N), (11, slP (k2 + 1 + 1) 1), (13, vi p), (14, vi ((q + 1 : Nat) : Int))], [rA1 nm l, vRow c1 1 (k2 + 1 + 1) (lF 0 (F2 ++ [lF 0 N q]))]⟩) (N.length - (q + 1)) (can_rowsv [0, 3] (k0_sel hk rfl) rfl (.cons rfl (RowEq.cl (rA1_cl _ _)) (.cons rfl (app_l c1_cl hF2k rfl rfl) .nil)) tmq) (by omega) ⟨q + 1, k2 + 1, _, by omega, hst.symm, by rw [List.length_append, hF2k]; rfl, by rw [List.length_append]; omega, hI2.snoc hxN hm2, by rw [lF_lt hpF]; exact hnx2, rfl, rfl⟩
                · rw [decide_eq_false hm] at ch
                  rw [if_neg (fun hh => hm hh.2)] at hst
                  repeat' (first | refine gg ?_ | exact trivial | with_reducible refine wA ?_ ?_ | refine Y2.mk ?_ ?_ | (intro hh; exact absurd hh (by decide)) | (refine pop_gfB rfl rfl rfl rfl ?_) | refine zz ch ?_ | refine gh ?_ | exact qq | fail)
                  refine xdone ?_
                  rw [hwq]
                  exact kloop_next (st' := ⟨[(3, .ptr 0 0 0), (9, sV A), (10, sV N), (11, slP (k2 + 1) 1), (13, vi p), (14, vi ((q + 1 : Nat) : Int))], [rA1 nm l, vRow c1 1 (k2 + 1) (lF 0 F2)]⟩) (N.length - (q + 1)) (can_rowsv [0, 1] (k0_sel hk rfl) rfl (.cons rfl (RowEq.cl (rA1_cl _ _)) (.cons rfl (RowEq.cl (v_cl c1_cl _ _ _)) .nil)) tmq) (by omega) ⟨q + 1, k2, F2, by omega, hst.symm, hF2k, hpF, hI2, hnx2, rfl, rfl⟩
              · have hql : q = N.length := by have := of_decide_eq_false hcq; omega
                subst hql
                rw [List.take_length] at hF2
                repeat' (first | refine gg ?_ | exact trivial | with_reducible refine wA ?_ ?_ | refine Y2.mk ?_ ?_ | refine gh ?_ | exact qq | fail)
                refine xdone ?_
                rw [hwp]
                exact kloop_next (st' := ⟨[(3, .ptr 0 0 0), (9, sV A), (10, sV N), (11, slP (k2 + 1) 1), (13, vi ((p + 1 : Nat) : Int))], [rA1 nm l, vRow c1 1 (k2 + 1) (lF 0 F2)]⟩) f (can_rowsv [0, 1] (k0_sel hk rfl) rfl (.cons rfl (RowEq.cl (rA1_cl _ _)) (.cons rfl (RowEq.cl (v_cl c1_cl _ _ _)) .nil)) tmq) (by omega) ⟨p + 1, k2 + 1, f, F2, hF2k, hI2, by omega, by rw [hdn, hF2], rfl, rfl⟩
            · have hc : F.length ≤ p := by have : ¬ (p : Int) < ((k + 1 : Nat) : Int) := of_decide_eq_false hc; omega
              repeat' (first | refine gg ?_ | exact trivial | with_reducible refine wA ?_ ?_ | refine Y2.mk ?_ ?_ | refine gh ?_ | exact qq | fail)
              refine kblock_hit rfl ?_
              exact kcut (st' := ⟨[(10, sV N), (11, slP (k + 1) 0)], [vRow c1 1 (k + 1) (lF 0 F)]⟩) (can_rowsv [1] (k0_sel hk rfl) rfl (.cons rfl (RowEq.cl (v_cl c1_cl _ _ _)) .nil) tmq) ⟨k + 1, F, hFk, hI, by rw [hdn]; exact dnF_end hc, rfl⟩
        · rintro _ ⟨k, F, hFk, hI, hdn, rfl⟩
          rw [hdn]
          have hFl := hI.len
          have hFv : sV F = .vsl k 1 (tI (lF 0 F)) := by show PV.vsl _ _ _ = _; rw [hFk]
          refine pcan (st' := ⟨[(10, sV N), (11, sV F)], []⟩) ?_ ?_
          · rw [hFv]
            rcases k with _ | k
            · exact (can_frz [] (fun l hl => by cases hl) rfl (tm := [(10, sV N), (11, .vsl 0 1 (tI (lF 0 F)))]) (by exact ⟨.inl rfl, .inr argNil, trivial⟩)).trans (can_rowsv [] (rows := []) (tm := [(10, sV N), (11, .vsl 0 1 (tI (lF 0 F)))]) (k0_sel hk rfl) rfl .nil tmq)
            · exact (can_frz [0] (fun l hl => by rw [hk]; exact Nat.zero_le _) rfl (tm := [(10, sV N), (11, .vsl (k + 1) 1 (tI (lF 0 F)))]) (by exact ⟨.inl rfl, .inr (argTI (arg_v (n := k + 1) (l := 0) c1_cl rfl (List.Mem.head _))), trivial⟩)).trans (can_rowsv [] (rows := []) (tm := [(10, sV N), (11, .vsl (k + 1) 1 (tI (lF 0 F)))]) (k0_sel hk rfl) rfl .nil tmq)
          clear hFv hFk
          obtain ⟨p2, hp2⟩ : ∃ p2 : Int → Bool, p2 = fun x => decide (x ∈ F) := ⟨_, rfl⟩
          rw [show (N.filter fun x => decide (x ∈ F)) = N.filter p2 by rw [hp2]]
          repeat' (first | refine gg ?_ | exact trivial | with_reducible refine wA ?_ ?_ | refine Y2.mk ?_ ?_ | refine gh ?_ | exact qq | fail)
          refine pcan (can_virt (vRow c1 1 0 (lF 0 [])) rfl) ?_
          refine pcan (st' := ⟨[(10, sV N), (11, sV F), (17, slP 0 0), (18, vi ((0 : Nat) : Int))], [vRow c1 1 0 (lF 0 ((N.take 0).filter p2))]⟩) (can_rowsv [0] (k0_sel hk rfl) rfl (.cons rfl (RowEq.cl (v_cl c1_cl _ _ _)) .nil) tmq) ?_
          refine ploop (fun z st => ∃ q k : Nat, q ≤ N.length ∧ ((N.take q).filter p2).length = k ∧ z = N.length - q ∧ st = ⟨[(10, sV N), (11, sV F), (17, slP k 0), (18, vi q)], [vRow c1 1 k (lF 0 ((N.take q).filter p2))]⟩) N.length ⟨0, 0, by omega, rfl, by omega, rfl⟩ ?_
          rintro _ _ ⟨q, k, hq, hk2, rfl, rfl⟩
          have hw1 : IntKind.i64.wrap ((q : Int) + 1) = ((q + 1 : Nat) : Int) := w64 (by omega) (by omega)
          have hkl := filter_take_len (p := p2) (L := N) (q := q)
          repeat' (first | refine gg ?_ | exact trivial | with_reducible refine wA ?_ ?_ | refine Y2.mk ?_ ?_ | refine gh ?_ | exact qq | fail)
          refine pcond rfl ?_ ?_ <;> intro hc
          · have hc : q < N.length := by have := of_decide_eq_true hc; omega
            have ch := has_c F (lF 0 N q) (by omega)
            have hf := filter_take (p := p2) hc
            repeat' (first | refine gg ?_ | exact trivial | with_reducible refine wA ?_ ?_ | refine Y2.mk ?_ ?_ | refine zz ch ?_ | refine gh ?_ | exact qq | fail)
            refine pcond (b := p2 (lF 0 N q)) ?_ ?_ ?_
            · refine eqB ?_
              rw [hp2]
            · intro h1
              rw [if_pos h1] at hf
              rcases k with _ | k
              · repeat' (first | refine gg ?_ | exact trivial | with_reducible refine wA ?_ ?_ | refine Y2.mk ?_ ?_ | exact ⟨Nat.le_refl _, (by rw [hk]; exact Nat.le_of_ble_eq_true rfl), Nat.le_of_eq (Nat.zero_add _), (show (_ : Nat) * 8 ≤ 140737488355328 from by omega), (show (_ : Nat) ≤ 9223372036854775807 from by omega)⟩ | (exact (show (_ : Nat) < _ by omega)) | refine gh ?_ | exact qq | fail)
                refine xdone ?_
                rw [hw1]
                exact kloop_next (st' := ⟨[(10, sV N), (11, sV F), (17, slP (0 + 1) 0), (18, vi ((q + 1 : Nat) : Int))], [vRow c1 1 (0 + 1) (lF 0 ((N.take q).filter p2 ++ [lF 0 N q]))]⟩) (N.length - (q + 1)) (can_rowsv [2] (k0_sel hk rfl) rfl (.cons rfl (app_l0 c1_cl hk2 rfl) .nil) tmq) (by omega) ⟨q + 1, 0 + 1, by omega, by rw [hf, List.length_append, hk2]; rfl, rfl, by rw [hf]⟩
              · repeat' (first | refine gg ?_ | exact trivial | with_reducible refine wA ?_ ?_ | refine Y2.mk ?_ ?_ | exact ⟨Nat.le_refl _, (by rw [hk]; exact Nat.le_of_ble_eq_true rfl), Nat.le_of_eq (Nat.zero_add _), (show (_ : Nat) * 8 ≤ 140737488355328 from by omega), (show (_ : Nat) ≤ 9223372036854775807 from by omega)⟩ | (exact (show (_ : Nat) < _ by omega)) | refine gh ?_ | exact qq | fail)
                refine xdone ?_
                rw [hw1]
                exact kloop_next (st' := ⟨[(10, sV N), (11, sV F), (17, slP (k + 1 + 1) 0), (18, vi ((q + 1 : Nat) : Int))], [vRow c1 1 (k + 1 + 1) (lF 0 ((N.take q).filter p2 ++ [lF 0 N q]))]⟩) (N.length - (q + 1)) (can_rowsv [2] (k0_sel hk rfl) rfl (.cons rfl (app_l c1_cl hk2 rfl rfl) .nil) tmq) (by omega) ⟨q + 1, k + 1 + 1, by omega, by rw [hf, List.length_append, hk2]; rfl, rfl, by rw [hf]⟩
            · intro h1
              rw [if_neg (by rw [h1]; decide), List.append_nil] at hf
              repeat' (first | refine gg ?_ | exact trivial | with_reducible refine wA ?_ ?_ | refine Y2.mk ?_ ?_ | refine gh ?_ | exact qq | fail)
              refine xdone ?_
              rw [hw1]
              exact kloop_next (st' := ⟨[(10, sV N), (11, sV F), (17, slP k 0), (18, vi ((q + 1 : Nat) : Int))], [vRow c1 1 k (lF 0 ((N.take q).filter p2))]⟩) (N.length - (q + 1)) (can_rowsv [0] (k0_sel hk rfl) rfl (.cons rfl (RowEq.cl (v_cl c1_cl _ _ _)) .nil) (by exact ⟨PEq.refl _, PEq.refl _, peq_slP rfl, PEq.refl _, trivial⟩)) (by omega) ⟨q + 1, k, by omega, by rw [hf]; exact hk2, rfl, by rw [hf]⟩
          · have hql : q = N.length := by have := of_decide_eq_false hc; omega
            subst hql
            rw [show N.filter p2 = (N.take N.length).filter p2 by rw [List.take_length]]
            rcases k with _ | k
            · repeat' (first | refine gg ?_ | exact trivial | with_reducible refine wA ?_ ?_ | refine Y2.mk ?_ ?_ | refine gh ?_ | exact qq | fail)
              refine xdone ?_
              refine kret [0] rfl ⟨trivial, trivial⟩ (qs := [.vsl 0 1 (tI (lF 0 ((N.take N.length).filter p2)))]) ⟨argTI (arg_v (n := 0) (l := 0) c1_cl rfl (List.Mem.head _)), trivial⟩ ?_
              rw [show sV ((N.take N.length).filter p2) = .vsl 0 1 (tI (lF 0 ((N.take N.length).filter p2))) from by show PV.vsl _ _ _ = _; rw [hk2]]; rfl
            · repeat' (first | refine gg ?_ | exact trivial | with_reducible refine wA ?_ ?_ | refine Y2.mk ?_ ?_ | refine gh ?_ | exact qq | fail)
              refine xdone ?_
              refine kret [0] rfl ⟨trivial, trivial⟩ (qs := [.vsl (k + 1) 1 (tI (lF 0 ((N.take N.length).filter p2)))]) ⟨argTI (arg_v (n := k + 1) (l := 0) c1_cl rfl (List.Mem.head _)), trivial⟩ ?_
              rw [show sV ((N.take N.length).filter p2) = .vsl (k + 1) 1 (tI (lF 0 ((N.take N.length).filter p2))) from by show PV.vsl _ _ _ = _; rw [hk2]]; rfl
  · have hO : OrdS nm l day = ([], gErr nm l day) := by unfold OrdS; rw [if_pos hg]
    have hD : DwnS nm l day s = [] := by unfold DwnS; rw [if_pos hg]
    have h11 : gErr nm l day ≠ 11 := fun hh => hg (ord_chk (.inl (by rw [hO]; exact hh)))
    rw [hO] at cO
    rw [hD]
    refine pure_of (G := G.toPg) (fn := Tryz.f35) Tryz.func35 rfl rfl rfl ?_; intro Γ hk
    repeat' (first | refine gg ?_ | exact trivial | with_reducible refine wA ?_ ?_ | refine Y2.mk ?_ ?_ | (refine pop_callc [] rfl rfl rfl rfl rfl rfl (fun _ h => by cases h) (cO) (args_cl _ rfl) ?_; rintro _ rfl) | refine gh ?_ | exact qq | fail)
    refine pcond (b := true) ?_ ?_ ?_
    · refine eqB ?_
      show (bif gErr nm l day != 0 then gErr nm l day != 11 else false) = true
      simp [hg, h11]
    · intro h5
      repeat' (first | refine gg ?_ | exact trivial | with_reducible refine wA ?_ ?_ | refine Y2.mk ?_ ?_ | refine gh ?_ | exact qq | fail)
      refine xdone ?_
      exact kret [] rfl ⟨trivial, trivial⟩ (qs := [.vsl 0 1 (tI (lF 0 []))]) ⟨argNil, trivial⟩ rfl
    · intro h5; cases h5
end Go.Proofs.YtcefhgomkehokaaGreat
namespace Go.Proofs.YtcefhgomkehokaaGreat
theorem same21_c (a b : List Int) (ha : a.length ≤ 1000000) (hb : b.length ≤ 1000000) : PureC G.P 30 [sV a, sV b] (fun r => r = vb (decide (a = b))) := by
  refine pure_of (G := G.toPg) (fn := Tryz.f30) Tryz.func30 rfl rfl rfl ?_; intro Γ hk
  repeat' (first | refine gg ?_ | exact trivial | with_reducible refine wA ?_ ?_ | refine Y2.mk ?_ ?_ | refine gh ?_ | exact qq | fail)
  refine pcond (b := decide (a.length ≠ b.length)) (eqB (by rw [Bool.eq_iff_iff]; simp; omega)) ?_ ?_ <;> intro hc
  · have hc := of_decide_eq_true hc
    repeat' (first | refine gg ?_ | exact trivial | with_reducible refine wA ?_ ?_ | refine Y2.mk ?_ ?_ | refine gh ?_ | exact qq | fail)
    refine kretv rfl ⟨trivial, trivial⟩ rfl (eqB ?_)
    exact (decide_eq_false (fun e => hc (by rw [e]))).symm
  · have hc := Decidable.not_not.1 (of_decide_eq_false hc)
    repeat' (first | refine gg ?_ | exact trivial | with_reducible refine wA ?_ ?_ | refine Y2.mk ?_ ?_ | refine gh ?_ | exact qq | fail)
    refine pcan (st' := ⟨[(0, sV a), (1, sV b), (5, vi ((0 : Nat) : Int))], []⟩) (can_rowsv [] (k0_sel hk rfl) rfl .nil tmq) ?_
    refine ploop (fun q st => ∃ i : Nat, i ≤ a.length ∧ (∀ j, j < i → lF 0 a j = lF 0 b j) ∧ q = a.length - i ∧ st = ⟨[(0, sV a), (1, sV b), (5, vi i)], []⟩) a.length ⟨0, Nat.zero_le _, fun j hj => absurd hj (Nat.not_lt_zero j), rfl, rfl⟩ ?_
    rintro _ _ ⟨i, hi, hv, rfl, rfl⟩
    repeat' (first | refine gg ?_ | exact trivial | with_reducible refine wA ?_ ?_ | refine Y2.mk ?_ ?_ | refine gh ?_ | exact qq | fail)
    refine pcond rfl ?_ ?_ <;> intro h1
    · have h1 : i < a.length := by have := of_decide_eq_true h1; omega
      have h2 : i < b.length := by omega
      repeat' (first | refine gg ?_ | exact trivial | with_reducible refine wA ?_ ?_ | refine Y2.mk ?_ ?_ | refine xs_start (id := 6) true [.take 0, .take 1, .take 2, .take 3, .take 4, .take 5, .take 6, .take 7, .take 8] 0 rfl rfl (by kernel_rfl) ?_ | refine gh ?_ | exact qq | fail)
      refine pcond (b := decide (lF 0 a i ≠ lF 0 b i)) (eqB (by rw [Bool.eq_iff_iff]; simp)) ?_ ?_ <;> intro h3
      · have h3 := of_decide_eq_true h3
        repeat' (first | refine gg ?_ | exact trivial | with_reducible refine wA ?_ ?_ | refine Y2.mk ?_ ?_ | refine gh ?_ | exact qq | fail)
        refine kretv rfl ⟨trivial, trivial⟩ rfl (eqB ?_)
        exact (decide_eq_false (fun e => h3 (by rw [e]))).symm
      · have h3 := Decidable.not_not.1 (of_decide_eq_false h3)
        repeat' (first | refine gg ?_ | exact trivial | with_reducible refine wA ?_ ?_ | refine Y2.mk ?_ ?_ | refine gh ?_ | exact qq | fail)
        rw [show IntKind.i64.wrap ((i : Int) + 1) = ((i + 1 : Nat) : Int) from w64 (by omega) (by omega)]
        exact kloop_next (st' := ⟨[(0, sV a), (1, sV b), (5, vi ((i + 1 : Nat) : Int))], []⟩) (a.length - (i + 1)) (can_rowsv [] (k0_sel hk rfl) rfl .nil tmq) (by omega) ⟨i + 1, by omega, fun j hj => by
          by_cases e : j = i
          · subst e; exact h3
          · exact hv j (by omega), rfl, rfl⟩
    · have hia : i = a.length := by have := of_decide_eq_false h1; omega
      subst hia
      repeat' (first | refine gg ?_ | exact trivial | with_reducible refine wA ?_ ?_ | refine Y2.mk ?_ ?_ | refine gh ?_ | exact qq | fail)
      refine kretv rfl ⟨trivial, trivial⟩ rfl (eqB ?_)
      have : a = b := List.ext_getElem hc fun j hj1 hj2 => by
        have := hv j hj1
        rwa [lF_get' hj1, lF_get' hj2] at this
      exact (decide_eq_true this).symm
/-! ### plain: what is active -/
structure VerOk (l : List Df) : Prop where
  key : ∀ i j, i < l.length → j < l.length → (lF dD l i).nm.toList = (lF dD l j).nm.toList → (lF dD l i).day = (lF dD l j).day → i = j
  pos : ∀ i, i < l.length → 0 ≤ (lF dD l i).day
  zero : ∀ i, i < l.length → (lF dD l i).kind = 1 ∨ (lF dD l i).kind = 5 → (lF dD l i).day = 0
end Go.Proofs.YtcefhgomkehokaaGreat
namespace Go.Proofs.YtcefhgomkehokaaGreat
theorem rel_opt {N : Nat} {Γ : Fr} {st : PSt} {ρ : Nat → Loc} {I : Nat → Prop} {a : Act} {w : World} (t : Nat) {g : Bool} {q : PV} (ht : st.get t = .opt g q) (hg : g = true) (hrel : Rel N Γ st ρ I a w) : Rel N Γ (st.put t q) ρ I a w := ⟨hrel.fr, hrel.defers, hrel.size, fun s => by
    have hs := hrel.slot s
    show VRel _ ρ I w (look s ((t, q) :: st.tm)) _
    simp only [look]
    cases hb : Nat.beq s t
    · exact hs
    · have e := Nat.eq_of_beq_eq_true hb
      subst e
      rw [ht] at hs
      exact hs.1 hg⟩
theorem ps_opt {G : Pg2} {N : Nat} {Γ : Fr} {K : Exit → PSt → Prop} {ops : Array Oper} {H : List Nat} {ni fin : Bool} {m : Nat} {ls : Array Bool} {sch : Sched} {st : PSt} (t : Nat) {g : Bool} {q : PV} (ht : st.get t = .opt g q) (hg : g = true) (h : PS G N Γ ops H ni fin sch m ls (st.put t q) K) : PS G N Γ ops H ni fin sch m ls st K :=
  ⟨fun h1 h2 => .mk fun HB w1 ρ I a w hrel hinv => (h.go h1 h2).go HB w1 ρ I a w (rel_opt t ht hg hrel) (hinv.put t q)⟩
theorem pst_unguard {G : Pg2} {N : Nat} {Γ : Fr} {ops : Array Oper} {o : Oper} {st : PSt} {ch : List Nat} {nk : Bool} {K' : PSt → Prop} {j : Nat} {want : Bool} (hg : o.guard = some (j, want)) (hgv : gval ops st j want = some true) (h : PStep G N Γ ops { o with guard := none } st ch nk K') : PStep G N Γ ops o st ch nk K' := .mk fun ρ I a w hrel Q => by
  have hw := gval_sound hrel hg hgv
  rw [if_pos hw]
  have h2 := h.go ρ I a w hrel Q
  rw [if_pos (by simp [Region.wanted])] at h2
  exact h2
end Go.Proofs.YtcefhgomkehokaaGreat
namespace Go.Proofs.YtcefhgomkehokaaGreat
theorem same_self (X : List Int) (h : X.length ≤ 1000000) : PureC G.P 30 [sV X, sV X] (fun r => r = vb true) := by
  have := same21_c X X h h
  rwa [decide_eq_true rfl] at this
theorem needsS_len {nm : ByteArray} {l : List Df} {day i : Int} : (NeedsS nm l day i).1.length ≤ l.length := by
  unfold NeedsS
  split
  · exact Nat.zero_le _
  · split
    · unfold needS
      split
      · exact Nat.le_trans needL_len (actL_len l day)
      · exact Nat.zero_le _
    · exact Nat.zero_le _
theorem actS_len {nm : ByteArray} {l : List Df} {day : Int} : (ActS nm l day).length ≤ l.length := by
  unfold ActS
  split
  · exact actL_len l day
  · exact Nat.zero_le _
theorem ordF_len {N : List Int} {L : List (Int × List Int)} : ∀ (f : Nat) (out : List Int), out.length + f ≤ N.length → (ordF N L f out).1.length ≤ N.length
  | 0, out, h => by show out.length ≤ _; omega
  | f + 1, out, h => by
    cases hf : N.find? (rdyB L out) with
    | none => rw [ordF_no hf]; exact Nat.zero_le _
    | some x => rw [ordF_yes hf]; exact ordF_len f _ (by rw [List.length_append]; show out.length + 1 + f ≤ _; omega)
theorem ordS_len {nm : ByteArray} {l : List Df} {day : Int} : (OrdS nm l day).1.length ≤ l.length := by
  unfold OrdS
  split
  · exact Nat.zero_le _
  · exact Nat.le_trans (ordF_len _ _ (by rw [List.length_nil]; omega)) (nodS_len l day)
theorem dwnS_len {nm : ByteArray} {l : List Df} {day : Int} {s : ByteArray} : (DwnS nm l day s).length ≤ l.length := by
  unfold DwnS
  split
  · exact Nat.zero_le _
  · exact Nat.le_trans (List.length_filter_le _ _) (nodS_len l day)
theorem cycR_eq {τ : Nat → Option Nat} (c : List Int) : PEq ((cycR c).ren τ) (sV c) := by
  cases c with
  | nil => exact peq_nil
  | cons x c => exact PEq.refl _
set_option maxHeartbeats 16000000 in
theorem reads_c (nm : ByteArray) (l : List Df) (day i : Int) (s : ByteArray) (h : AgO nm l) (hl : l.length ≤ 900000) (hcy : CycS nm l day = Cyc21S nm l day) (hcl : (CycS nm l day).length ≤ 1000000) : PureC G.P 8 [vA nm l, vi day, vi i, vs s] (fun r => r = vb true) := by
  have n1 := Needs_c nm l day i h (by omega)
  have n2 := Needs21_c nm l day i h (by omega)
  have o1 := Order_c nm l day h (by omega)
  have o2 := Order21_c nm l day h (by omega)
  have a1 := Active_c nm l day h (by omega)
  have a2 := Active21_c nm l day h (by omega)
  have c1 := Cycle_c nm l day h hl
  have c2 := Cycle21_c nm l day h hl
  have d1 := Downstream_c nm l day s h hl
  have d2 := Downstream21_c nm l day s h hl
  have sn := same_self (NeedsS nm l day i).1 (Nat.le_trans needsS_len (by omega))
  have so := same_self (OrdS nm l day).1 (Nat.le_trans ordS_len (by omega))
  have sa := same_self (ActS nm l day) (Nat.le_trans actS_len (by omega))
  have sd := same_self (DwnS nm l day s) (Nat.le_trans dwnS_len (by omega))
  have sc := same_self (CycS nm l day) hcl
  rw [← hcy] at c2
  clear hcy hcl
  generalize NeedsS nm l day i = X at *
  generalize OrdS nm l day = O at *
  generalize ActS nm l day = A at *
  generalize DwnS nm l day s = D at *
  generalize CycS nm l day = C at *
  obtain ⟨X1, X2⟩ := X
  obtain ⟨O1, O2⟩ := O
  simp only at n1 n2 o1 o2 sn so
  refine pure_of (G := G.toPg) (fn := Tryz.f8) Tryz.func8 rfl rfl rfl ?_; intro Γ hk
  repeat' (first | refine gg ?_ | exact trivial | with_reducible refine wA ?_ ?_ | refine Y2.mk ?_ ?_ | refine xs_start (id := 5) true [.take 0, .take 1, .take 3, .take 4, .one 2, .one 5, .one 6, .take 7, .take 8, .take 9, .one 10, .take 11, .take 12, .take 13, .take 14, .take 15, .take 16, .take 17, .take 18, .take 19, .one 20, .take 21, .take 22, .take 23, .take 24, .take 25, .take 26, .take 27, .take 28, .take 29, .take 31, .take 32, .one 30, .one 33, .one 34, .take 35, .take 36, .take 37, .take 38, .take 39, .take 41, .take 42, .take 43, .one 40, .one 44, .one 45, .take 46, .take 47] 0 rfl rfl (by kernel_rfl) ?_ | (refine pop_callc [] rfl rfl rfl rfl rfl rfl (fun _ h => by cases h) (n1) (args_cl _ rfl) ?_; rintro _ rfl) | (refine pop_callc [] rfl rfl rfl rfl rfl rfl (fun _ h => by cases h) (n2) (args_cl _ rfl) ?_; rintro _ rfl) | (refine pop_callc [] rfl rfl rfl rfl rfl rfl (fun _ h => by cases h) (o1) (args_cl _ rfl) ?_; rintro _ rfl) | (refine pop_callc [] rfl rfl rfl rfl rfl rfl (fun _ h => by cases h) (o2) (args_cl _ rfl) ?_; rintro _ rfl) | (refine xs_one (ch := []) rfl rfl rfl (pst_rowsc [] rfl rfl rfl rfl rfl rfl .nil (pure_rows (a1)) (by exact ⟨PEq.cl _ (clB_spec _ rfl), PEq.cl _ (clB_spec _ rfl), trivial⟩) ?_); rintro r rows ⟨rfl, rfl⟩; refine ⟨_, _, rfl, trivial, rfl, ?_⟩) | (refine xs_one (ch := []) rfl rfl rfl (pst_rowsc [] rfl rfl rfl rfl rfl rfl .nil (pure_rows (a2)) (by exact ⟨PEq.cl _ (clB_spec _ rfl), PEq.cl _ (clB_spec _ rfl), trivial⟩) ?_); rintro r rows ⟨rfl, rfl⟩; refine ⟨_, _, rfl, trivial, rfl, ?_⟩) | refine zz sa ?_ | refine zz sn ?_ | refine zz so ?_ | refine gh ?_ | exact qq | fail)
  rw [show (O2 == O2) = true from beq_self_eq_true _, show (X2 == X2) = true from beq_self_eq_true _]
  refine ps_opt 71 rfl rfl ?_
  refine ps_opt 72 rfl rfl ?_
  have e34 : ∀ τ : Nat → Option Nat, PEq ((cycR C).ren τ) (sV C) := fun τ => cycR_eq C
  rcases C with _ | ⟨x, C⟩
  all_goals
    refine xs_one (ch := []) rfl rfl rfl (pst_unguard rfl rfl (pst_rowsc [] rfl rfl rfl rfl rfl rfl .nil (pure_rows c1) (by exact ⟨PEq.cl _ (clB_spec _ rfl), PEq.refl _, trivial⟩) ?_))
    rintro r rows ⟨rfl, rfl⟩
    refine ⟨_, _, rfl, trivial, rfl, ?_⟩
    repeat' (first | refine gg ?_ | exact trivial | with_reducible refine wA ?_ ?_ | refine Y2.mk ?_ ?_ | refine gh ?_ | exact qq | fail)
    refine ps_opt 74 rfl rfl ?_
    refine ps_opt 75 rfl rfl ?_
    refine xs_one (ch := []) rfl rfl rfl (pst_unguard rfl rfl (pst_rowsc [] rfl rfl rfl rfl rfl rfl .nil (pure_rows c2) (by exact ⟨PEq.cl _ (clB_spec _ rfl), PEq.refl _, trivial⟩) ?_))
    rintro r rows ⟨rfl, rfl⟩
    refine ⟨_, _, rfl, trivial, rfl, ?_⟩
    repeat' (first | refine gg ?_ | exact trivial | with_reducible refine wA ?_ ?_ | refine Y2.mk ?_ ?_ | refine gh ?_ | exact qq | fail)
    refine xs_one (ch := []) rfl rfl rfl (pst_unguard rfl rfl (pst_callp rfl rfl rfl rfl rfl sc (by exact ⟨by first | exact PEq.refl _ | exact e34 some, PEq.refl _, trivial⟩) rfl rfl ?_))
    repeat' (first | refine gg ?_ | exact trivial | with_reducible refine wA ?_ ?_ | refine Y2.mk ?_ ?_ | refine gh ?_ | exact qq | fail)
    refine ps_opt 80 rfl rfl ?_
    refine ps_opt 81 rfl rfl ?_
    refine ps_opt 82 rfl rfl ?_
    refine xs_one (ch := []) rfl rfl rfl (pst_unguard rfl rfl (pst_rowsc [] rfl rfl rfl rfl rfl rfl .nil (pure_rows d1) (by exact ⟨PEq.cl _ (clB_spec _ rfl), PEq.refl _, PEq.refl _, trivial⟩) ?_))
    rintro r rows ⟨rfl, rfl⟩
    refine ⟨_, _, rfl, trivial, rfl, ?_⟩
    repeat' (first | refine gg ?_ | exact trivial | with_reducible refine wA ?_ ?_ | refine Y2.mk ?_ ?_ | refine gh ?_ | exact qq | fail)
    refine ps_opt 84 rfl rfl ?_
    refine ps_opt 85 rfl rfl ?_
    refine ps_opt 86 rfl rfl ?_
    refine xs_one (ch := []) rfl rfl rfl (pst_unguard rfl rfl (pst_rowsc [] rfl rfl rfl rfl rfl rfl .nil (pure_rows d2) (by exact ⟨PEq.cl _ (clB_spec _ rfl), PEq.refl _, PEq.refl _, trivial⟩) ?_))
    rintro r rows ⟨rfl, rfl⟩
    refine ⟨_, _, rfl, trivial, rfl, ?_⟩
    repeat' (first | refine gg ?_ | exact trivial | with_reducible refine wA ?_ ?_ | refine Y2.mk ?_ ?_ | refine zz sd ?_ | refine gh ?_ | exact qq | fail)
    refine xdone ?_
    exact kretv rfl ⟨trivial, trivial⟩ rfl rfl
end Go.Proofs.YtcefhgomkehokaaGreat
namespace Go.Proofs.YtcefhgomkehokaaGreat
def r3 (x : Nat) : Int × Int := if x = 0 then (1, 1) else if x = 1 then (1, 100) else (1, 4)
end Go.Proofs.YtcefhgomkehokaaGreat
namespace Go.Proofs.YtcefhgomkehokaaGreat
end Go.Proofs.YtcefhgomkehokaaGreat
namespace Go.Proofs.YtcefhgomkehokaaGreat
end Go.Proofs.YtcefhgomkehokaaGreat
namespace Go.Proofs.YtcefhgomkehokaaGreat
end Go.Proofs.YtcefhgomkehokaaGreat
namespace Go.Proofs.YtcefhgomkehokaaGreat
end Go.Proofs.YtcefhgomkehokaaGreat
namespace Go.Proofs.YtcefhgomkehokaaGreat
end Go.Proofs.YtcefhgomkehokaaGreat
namespace Go.Proofs.YtcefhgomkehokaaGreat
abbrev dK : ByteArray × Int := (⟨#[]⟩, 0)
structure AB (wild : Bool) (hh n : Nat) (l : List Df) : Prop where
  sub : (l.map keyD).Sublist (KS.take n)
  gd : ∀ d, d ∈ l → GD wild hh d
  has : ∀ x, x ∈ KS.take (min n 17) → x.1 ∈ l.map Df.nm
theorem AB.skip {wild : Bool} {hh n : Nat} {l : List Df} (h : AB wild hh n l) (hn : n < 18) (hs : (lF dK KS n).1 ∈ (KS.take (min n 17)).map Prod.fst ∨ n = 17) : AB wild hh (n + 1) l := by
  refine ⟨h.sub.trans (List.take_sublist_take_left (by omega)), h.gd, fun x hx => ?_⟩
  by_cases h17 : n = 17
  · subst h17; exact h.has x hx
  · have hn17 : n < 17 := by omega
    rw [show min (n + 1) 17 = n + 1 by omega, take_snoc (d := dK) (by show n < 18; omega)] at hx
    rcases List.mem_append.1 hx with hx | hx
    · exact h.has x (by rw [show min n 17 = n by omega]; exact hx)
    · have : x = lF dK KS n := by simpa using hx
      subst this
      obtain ⟨y, hy, he⟩ := List.mem_map.1 (hs.resolve_right h17)
      rw [← he]; exact h.has y hy
theorem AB.snoc {wild : Bool} {hh n : Nat} {l : List Df} (h : AB wild hh n l) (hn : n < 18) {d : Df} (hk : keyD d = lF dK KS n) (hd : GD wild hh d) : AB wild hh (n + 1) (l ++ [d]) := by
  refine ⟨?_, fun x hx => ?_, fun x hx => ?_⟩
  · rw [take_snoc (d := dK) (by show n < 18; omega), List.map_append, List.map_cons, List.map_nil, hk]
    exact h.sub.append (List.Sublist.refl _)
  · rcases List.mem_append.1 hx with hx | hx
    · exact h.gd x hx
    · obtain rfl : x = d := by simpa using hx
      exact hd
  · rw [List.map_append, List.mem_append]
    by_cases h17 : n = 17
    · subst h17; exact .inl (h.has x hx)
    · rw [show min (n + 1) 17 = n + 1 by omega, take_snoc (d := dK) (by show n < 18; omega)] at hx
      rcases List.mem_append.1 hx with hx | hx
      · exact .inl (h.has x (by rw [show min n 17 = n by omega]; exact hx))
      · have : x = lF dK KS n := by simpa using hx
        subst this
        refine .inr ?_
        rw [← hk]; simp [keyD]
theorem KS_nodup : (KS.map fun x => (x.1.toList, x.2)).Nodup := by decide +kernel
theorem neds_KS : ∀ n, n ∈ neds → n ∈ (KS.take 17).map Prod.fst := by
  intro n hn
  unfold neds at hn
  simp only [List.mem_cons, List.not_mem_nil, or_false] at hn
  rcases hn with rfl | rfl | rfl | rfl | rfl | rfl | rfl | rfl | rfl | rfl | rfl | rfl <;> (unfold KS; simp only [List.take_succ_cons, List.take_zero, List.map_cons, List.map_nil]; repeat' (first | exact List.Mem.head _ | refine List.Mem.tail _ ?_))
theorem AB.good {wild : Bool} {hh : Nat} {l : List Df} (h : AB wild hh 18 l) : AGood wild hh l := by
  refine ⟨h.gd, ?_, fun n hn => ?_, ?_, fun d hd => h.sub.subset (List.mem_map_of_mem hd)⟩
  · have e : (l.map fun d => (d.nm.toList, d.day)) = (l.map keyD).map (fun x => (x.1.toList, x.2)) := by rw [List.map_map]; rfl
    rw [e]
    exact (h.sub.map _).nodup KS_nodup
  · obtain ⟨x, hx, he⟩ := List.mem_map.1 (neds_KS n hn)
    rw [← he]; exact h.has x hx
  · have := h.sub.length_le
    simp [KS] at this
    omega
abbrev dR (nm : ByteArray) (t : Ty) (day : Int) (e : Ex) : Df := ⟨3, nm, t, day, 0, fun _ => (0, 0, 0), e, 0, 0, 0⟩
theorem o_eqP {α : Type} {c : α → List PV} {τ : Nat → Option Nat} {sz n n' : Nat} {f : Nat → Nat → PV} {g : Nat → α} (hn : n' ≤ n) (h : ∀ a, a < n' → ∀ b, b < sz → PEq ((f a b).ren τ) (nthP (c (g a)) b)) : RowEq (Row.ren τ ⟨.own, false, n, sz, f⟩) (oRow c sz n' g) := ⟨rfl, rfl, hn, fun i hi j hj => h i hi j hj⟩
theorem o_eq2 {α : Type} {c : α → List PV} (hc : CellsCl c) {τ : Nat → Option Nat} {sz n n' : Nat} {f : Nat → Nat → PV} {g : Nat → α} (hn : n' ≤ n) (h : ∀ a, a < n' → ∀ b, b < sz → f a b = nthP (c (g a)) b ∨ PEq ((f a b).ren τ) (nthP (c (g a)) b)) : RowEq (Row.ren τ ⟨.own, false, n, sz, f⟩) (oRow c sz n' g) := o_eqP hn fun a ha b hb => by
  rcases h a ha b hb with h | h
  · rw [h]; exact PEq.cl _ (clL_nth _ b (hc (g a)))
  · exact h
theorem app_p {α : Type} {c : α → List PV} (hc : CellsCl c) {τ : Nat → Option Nat} {sz m M : Nat} {d : α} {l : List α} {y : α} {L : List PV} (hl : l.length = m) (hL : ∀ b, b < sz → PEq ((nthP L b).ren τ) (nthP (c y) b)) (hM : M = m + 1) : RowEq (Row.ren τ ⟨.own, false, M, sz, appF m (fun x => tF c (lF d l) (0 + x)) (fun x b => nthP L ((0 + x) * sz + b))⟩) (vRow c sz (m + 1) (lF d (l ++ [y]))) := by
  subst hM hl
  refine o_eq2 hc (Nat.le_refl _) fun a ha b hb => ?_
  by_cases e : a < l.length
  · rw [appF_lt _ _ e, Nat.zero_add, lF_lt e]; exact .inl rfl
  · obtain rfl : a = l.length := by omega
    rw [appF_ge _ _ (Nat.le_refl _), Nat.sub_self, Nat.zero_add, Nat.zero_mul, Nat.zero_add, lF_at]
    exact .inr (hL b hb)
theorem split21 {b : Nat} (h : b < 21) : b = 0 ∨ b = 1 ∨ b = 2 ∨ b = 3 ∨ b = 4 ∨ b = 5 ∨ b = 6 ∨ b = 7 ∨ b = 8 ∨ b = 9 ∨ b = 10 ∨ b = 11 ∨ b = 12 ∨ b = 13 ∨ b = 14 ∨ b = 15 ∨ b = 16 ∨ b = 17 ∨ b = 18 ∨ b = 19 ∨ b = 20 := by omega
theorem AB.len {wild : Bool} {hh n : Nat} {l : List Df} (h : AB wild hh n l) : l.length ≤ 18 := by
  have := h.sub.length_le
  simp [KS] at this
  omega
abbrev rZA : Row := ⟨.own, true, 1, 2, fun _ => nthP [vs ⟨#[]⟩, .val (.slice none 0 0)]⟩
theorem AGood.l1 {wild : Bool} {h : Nat} {l : List Df} (hA : AGood wild h l) : l.length ≤ 30 := hA.len
end Go.Proofs.YtcefhgomkehokaaGreat
namespace Go.Proofs.YtcefhgomkehokaaGreat
end Go.Proofs.YtcefhgomkehokaaGreat
namespace Go.Proofs.YtcefhgomkehokaaGreat
def RowsR (τ : Nat → Option Nat) : List Row → List Row → Prop
  | [], [] => True
  | r :: rs, q :: qs => RowEq (r.ren τ) q ∧ RowsR τ rs qs
  | _, _ => False
theorem RowsR.get {τ : Nat → Option Nat} : ∀ (rows rows2 : List Row), RowsR τ rows rows2 → rows.length = rows2.length ∧ ∀ (i : Nat) (q : Row), rows2[i]? = some q → ∃ r, rows[i]? = some r ∧ RowEq (r.ren τ) q
  | [], [], _ => ⟨rfl, fun i q h => by simp at h⟩
  | r :: rs, q :: qs, h => by
    obtain ⟨h1, h2⟩ := RowsR.get rs qs h.2
    refine ⟨by simp [h1], fun i x hx => ?_⟩
    cases i with
    | zero => simp at hx; subst hx; exact ⟨r, rfl, h.1⟩
    | succ i => exact h2 i x (by simpa using hx)
  | [], _ :: _, h => h.elim
  | _ :: _, [], h => h.elim
theorem putPl_eq2 (τ : Nat → Option Nat) : ∀ (s : List Nat) (rows rows2 mem mem' : List Row), RowsR τ rows rows2 → mem'.length = mem.length → (∀ (l : Nat) (r' : Row), mem'[l]? = some r' → ∃ r : Row, mem[l]? = some r ∧ RowEq r r') →
    (putPl s rows2 mem').length = (putRows τ s rows mem).length ∧ ∀ (l : Nat) (r' : Row), (putPl s rows2 mem')[l]? = some r' → ∃ r : Row, (putRows τ s rows mem)[l]? = some r ∧ RowEq r r'
  | [], ext, ext2, mem, mem', hc, hl, he => by
    obtain ⟨g1, g2⟩ := RowsR.get ext ext2 hc
    refine ⟨by simp [putPl, putRows, hl, g1], fun l r' h => ?_⟩
    rw [putPl] at h
    rw [putRows]
    by_cases hlt : l < mem'.length
    · rw [List.getElem?_append_left hlt] at h
      rw [List.getElem?_append_left (by omega)]
      exact he l r' h
    · rw [List.getElem?_append_right (by omega)] at h
      rw [List.getElem?_append_right (by omega), List.getElem?_map]
      rw [hl] at h
      obtain ⟨r, e1, e2⟩ := g2 _ _ h
      exact ⟨r.ren τ, by rw [e1]; rfl, e2⟩
  | x :: s, r :: rows, q :: rows2, mem, mem', hc, hl, he => by
    rw [putPl, putRows]
    refine putPl_eq2 τ s rows rows2 _ _ hc.2 (by simp [hl]) (fun l r' h => ?_)
    by_cases e : l = x
    · subst e
      by_cases hlt : l < mem'.length
      · rw [List.getElem?_set_self hlt] at h
        simp only [Option.some.injEq] at h
        subst h
        exact ⟨r.ren τ, List.getElem?_set_self (by omega), hc.1⟩
      · rw [List.getElem?_eq_none (by simp; omega)] at h; cases h
    · rw [List.getElem?_set_ne (Ne.symm e)] at h
      rw [List.getElem?_set_ne (Ne.symm e)]
      exact he l r' h
  | _ :: _, [], [], mem, mem', _, hl, he => ⟨by simp [putPl, putRows, hl], fun l r' h => he l r' h⟩
  | _ :: _, [], _ :: _, _, _, hc, _, _ => hc.elim
  | _ :: _, _ :: _, [], _, _, hc, _, _ => hc.elim
section
variable {G : Pg} {N : Nat} {Γ : Fr} {st : PSt}
variable {K : Exit → PSt → Prop} {ops : Array Oper} {o : Oper} {rest : List Oper} {d : Nat}
theorem pop_rowsd {f : FuncId} {x : Operand} {args : Array Operand} {tys : Array TypeId} {n : Nat} {c : Nat → PV} {rows : List Row} {qs : List PV} {post : PV → List Row → Prop} (sel : List Nat) (hg : o.guard = none) (hdst : o.dst = some d) (hN : Nat.blt d N = true)
    (ho : o.op = .call ⟨.value x, args, tys⟩) (hx : st.ev x = .clo f n c) (hd : nodupB sel = true) (hs : SelOk st.mem sel sel rows) (hc : RowsC G.P f rows qs post) (ha : PEqL ((args.toList.map st.ev ++ capL n c 0).map (PV.ren (inv sel 0))) qs)
    (h : ∀ r rows', post r rows' → ∃ rows2 m r', RowsR (tau sel (lenK st.mem 0)) rows' rows2 ∧ putP sel rows2 st.mem some = some m ∧ PEq (r.ren (tau sel (lenK st.mem 0))) r' ∧ POps G N Γ ops rest (PSt.put ⟨st.tm, m⟩ d r') K) : POps G N Γ ops (o :: rest) st K := .mk fun ρ I a w hrel => by
  have hw : Region.wanted o (yielded ops a.tmps) = true := by simp [Region.wanted, hg]
  simp only [wpList, hw, if_true]
  refine .inl (rows_core sel hrel ho (hx ▸ ev_rel hrel x) hd hs hc ha ?_)
  intro v r rows' ρ2 I' w' hpost hr _ hv
  obtain ⟨rows2, m, r', e0, e1, e2, hk⟩ := h r rows' hpost
  rw [putP_eq] at e1
  rw [lenK_eq, Nat.zero_add] at e0 e2
  simp only [Option.some.injEq] at e1
  obtain ⟨q1, q2⟩ := putPl_eq2 (tau sel st.mem.length) sel rows' rows2 st.mem st.mem e0 rfl (fun l r' h => ⟨r', h, RowEq.refl _⟩)
  have hr2 := hr.rowsEq q1 q2
  rw [← q1] at hv
  rw [e1] at hr2 hv
  simp only [hdst]
  exact hk.go ρ2 I' _ w' (hr2.put (by rwa [Nat.blt_eq] at hN) (e2 _ _ _ _ _ hv))
end
theorem peqA {τ : Nat → Option Nat} {nm : ByteArray} {l l' i n : Nat} (h : τ l = some l') : PEq ((PV.agg 2 (nthP [vs nm, .lsl l i n])).ren τ) (.agg 2 (nthP [vs nm, .lsl l' i n])) :=
  (show PEq (.agg 2 _) (.agg 2 _) from PEq.agg fun j hj => by
    rcases (by omega : j = 0 ∨ j = 1) with rfl | rfl
    · exact PEq.refl _
    · show PEq (match τ l with | some l' => PV.lsl l' i n | none => .junk) (.lsl l' i n)
      rw [h]; exact PEq.refl _)
theorem argAgr {mem : List Row} {L : List Nat} {nm : ByteArray} {l : List Df} {p : PV} (h : ArgOk mem L p (vDs l)) : ArgOk mem L (.agg 2 (nthP [vs nm, p])) (vA nm l) := argAggL fun i hi => by
  rcases (by omega : i = 0 ∨ i = 1) with rfl | rfl
  · exact argVal
  · exact h
end Go.Proofs.YtcefhgomkehokaaGreat
namespace Go.Proofs.YtcefhgomkehokaaGreat
theorem argDs {mem : List Row} {L : List Nat} {x k : Nat} {l : List Df} (hk : l.length = k + 1) (hr : rowAt mem x = some (oRow cD 21 (k + 1) (lF dD l))) (hL : x ∈ L) : ArgOk mem L (.lsl x 0 (k + 1)) (vDs l) := by
  have := arg_o (s := .own) (L := L) cD_cl hr trivial hL
  rw [← hk] at this ⊢
  exact this
end Go.Proofs.YtcefhgomkehokaaGreat
namespace Go.Proofs.YtcefhgomkehokaaGreat
def OrdInv (N : List Int) (L : List (Int × List Int)) (out : List Int) : Prop := ∀ q, q < out.length → N.find? (rdyB L (out.take q)) = some (lF 0 out q)
theorem rdyB_spec {L : List (Int × List Int)} {out : List Int} {x : Int} : rdyB L out x = true ↔ ¬ x ∈ out ∧ ∀ y, y ∈ sget L x → y ∈ out := by
  unfold rdyB
  rw [Bool.and_eq_true, List.all_eq_true]
  constructor
  · rintro ⟨h1, h2⟩
    exact ⟨fun h => (by rw [decide_eq_true h] at h1; cases h1), fun y hy => of_decide_eq_true (h2 y hy)⟩
  · rintro ⟨h1, h2⟩
    exact ⟨by rw [decide_eq_false h1]; rfl, fun y hy => decide_eq_true (h2 y hy)⟩
theorem OrdInv.at {N : List Int} {L : List (Int × List Int)} {out : List Int} (h : OrdInv N L out) {q : Nat} (hq : q < out.length) : lF 0 out q ∈ N ∧ ¬ lF 0 out q ∈ out.take q ∧ ∀ y, y ∈ sget L (lF 0 out q) → y ∈ out.take q :=
  ⟨List.mem_of_find?_eq_some (h q hq), rdyB_spec.1 (List.find?_some (h q hq))⟩
theorem OrdInv.nodup {N : List Int} {L : List (Int × List Int)} {out : List Int} (h : OrdInv N L out) {i j : Nat} (hij : i < j) (hj : j < out.length) : lF 0 out i ≠ lF 0 out j := fun e => (h.at hj).2.1 (by
  rw [← e, lF_get' (by omega)]
  exact List.mem_take_iff_getElem.2 ⟨i, by omega, rfl⟩)
theorem OrdInv.nd {N : List Int} {L : List (Int × List Int)} {out : List Int} (h : OrdInv N L out) : out.Nodup := by
  rw [List.nodup_iff_pairwise_ne, List.pairwise_iff_getElem]
  intro i j hi hj hij
  have := h.nodup hij hj
  rwa [lF_get' hi, lF_get' hj] at this
theorem OrdInv.first {N : List Int} {L : List (Int × List Int)} {out : List Int} (h : OrdInv N L out) (hN : N.Pairwise (· < ·)) {p q : Nat} (hqp : q < p) (hp : p < out.length) (hr : ∀ y, y ∈ sget L (lF 0 out p) → y ∈ out.take q) : lF 0 out q ≤ lF 0 out p := by
  have hx := (h.at hp).1
  have hno : ¬ lF 0 out p ∈ out.take q := fun hh => (h.at hp).2.1 (by
    obtain ⟨i, hi, e⟩ := List.mem_take_iff_getElem.1 hh
    exact List.mem_take_iff_getElem.2 ⟨i, by omega, e⟩)
  have hf := h q (by omega)
  rw [List.find?_eq_some_iff_getElem] at hf
  obtain ⟨_, i, hi, e1, e2⟩ := hf
  obtain ⟨j, hj, e3⟩ := List.getElem_of_mem hx
  rw [← e1, ← e3]
  by_cases hij : i = j
  · subst hij; exact Int.le_refl _
  · by_cases hlt : i < j
    · exact Int.le_of_lt (List.pairwise_iff_getElem.1 hN i j hi hj hlt)
    · have := e2 j (by omega)
      rw [e3, rdyB_spec.2 ⟨hno, hr⟩] at this
      cases this
end Go.Proofs.YtcefhgomkehokaaGreat
namespace Go.Proofs.YtcefhgomkehokaaGreat
def Wlk (L : List (Int × List Int)) (t : Int) : Nat → Int → Prop
  | 0, x => x = t
  | n + 1, x => ∃ y, y ∈ sget L x ∧ Wlk L t n y
structure GrOk (N : List Int) (L : List (Int × List Int)) : Prop where
  asc : N.Pairwise (· < ·)
  cl : ∀ x y, y ∈ sget L x → x ∈ N ∧ y ∈ N
  lasc : ∀ x, (sget L x).Pairwise (· < ·)
  pos : ∀ x, x ∈ N → 0 ≤ x
theorem mget_pre {m l : List (Int × Int)} {k d : Int} (h : mget m k = some d) : mget (m ++ l) k = some d := by
  induction m with
  | nil => cases h
  | cons a m ih =>
    have h : (if a.1 = k then some a.2 else mget m k) = some d := h
    show (if a.1 = k then some a.2 else mget (m ++ l) k) = some d
    by_cases e : a.1 = k
    · rw [if_pos e] at h ⊢; exact h
    · rw [if_neg e] at h ⊢; exact ih h
structure InvC (N : List Int) (L : List (Int × List Int)) (t q dq : Int) (A : List Int) (s : DS) : Prop where
  ks : ∃ P : List Int, s.1.map (·.1) = P ++ s.2 ∧ q ∈ P ∧ (∀ y, y ∈ P → y ≠ q → ∀ x, y ∈ sget L x → ∃ dx dy, mget s.1 x = some dx ∧ mget s.1 y = some dy ∧ dx ≤ dy + 1) ∧ ∀ x, x ∈ A → q ∈ sget L x → ∃ dx, mget s.1 x = some dx ∧ dx ≤ dq + 1
  mon : s.1.Pairwise (fun a b => a.2 ≤ b.2)
  qd : mget s.1 q = some dq
  top : ∀ e, e ∈ s.1 → e.2 ≤ dq + 1
  low : ∀ y, y ∈ s.2 → ∀ d, mget s.1 y = some d → dq ≤ d
  t0 : mget s.1 t = some 0
structure InvB (N : List Int) (L : List (Int × List Int)) (t : Int) (s : DS) : Prop where
  ks : ∃ P : List Int, s.1.map (·.1) = P ++ s.2 ∧ ∀ y, y ∈ P → ∀ x, y ∈ sget L x → ∃ dx dy, mget s.1 x = some dx ∧ mget s.1 y = some dy ∧ dx ≤ dy + 1
  mon : s.1.Pairwise (fun a b => a.2 ≤ b.2)
  hd : ∀ q Q, s.2 = q :: Q → ∀ dq, mget s.1 q = some dq → ∀ e, e ∈ s.1 → e.2 ≤ dq + 1
  t0 : mget s.1 t = some 0
theorem InvC.step {N : List Int} {L : List (Int × List Int)} {t q dq : Int} {A : List Int} {s : DS} {i : Int} (h : InvC N L t q dq A s) : InvC N L t q dq (A ++ [i]) (disStep L q s i) := by
  obtain ⟨P, k1, k2, k3, k4⟩ := h.ks
  unfold disStep
  by_cases hc : (mget s.1 i).isSome = false ∧ q ∈ sget L i
  · rw [if_pos hc, h.qd]
    have hno : mget s.1 i = none := by
      cases hm : mget s.1 i with
      | none => rfl
      | some d => rw [hm] at hc; cases hc.1
    show InvC N L t q dq (A ++ [i]) (s.1 ++ [(i, dq + 1)], s.2 ++ [i])
    have hi : mget (s.1 ++ [(i, dq + 1)]) i = some (dq + 1) := mget_snoc hno
    refine ⟨⟨P, by rw [List.map_append, k1, List.append_assoc]; rfl, k2, fun y hy hyq x hx => ?_, fun x hx hq => ?_⟩, ?_, mget_pre h.qd, fun e he => ?_, fun y hy d hd => ?_, mget_pre h.t0⟩
    · obtain ⟨dx, dy, e1, e2, e3⟩ := k3 y hy hyq x hx
      exact ⟨dx, dy, mget_pre e1, mget_pre e2, e3⟩
    · rcases List.mem_append.1 hx with hx | hx
      · obtain ⟨dx, e1, e2⟩ := k4 x hx hq
        exact ⟨dx, mget_pre e1, e2⟩
      · rw [List.mem_singleton.1 hx]
        exact ⟨_, hi, Int.le_refl _⟩
    · rw [List.pairwise_append]
      refine ⟨h.mon, List.pairwise_singleton _ _, fun a ha b hb => ?_⟩
      rw [List.mem_singleton.1 hb]
      exact h.top a ha
    · rcases List.mem_append.1 he with he | he
      · exact h.top e he
      · rw [List.mem_singleton.1 he]; exact Int.le_refl _
    · by_cases e : y = i
      · subst e
        rw [hi] at hd
        injection hd with hd
        omega
      · have hy : y ∈ s.2 := by
          rcases List.mem_append.1 hy with hy | hy
          · exact hy
          · exact absurd (List.mem_singleton.1 hy) e
        rw [mget_app (fun h => e h.symm)] at hd
        exact h.low y hy d hd
  · rw [if_neg hc]
    refine ⟨⟨P, k1, k2, k3, fun x hx hq => ?_⟩, h.mon, h.qd, h.top, h.low, h.t0⟩
    rcases List.mem_append.1 hx with hx | hx
    · exact k4 x hx hq
    · rw [List.mem_singleton.1 hx] at hq ⊢
      cases hm : mget s.1 i with
      | none => rw [hm] at hc; exact absurd ⟨rfl, hq⟩ hc
      | some d => exact ⟨d, rfl, h.top _ (mget_some hm)⟩
theorem InvC.fold {N : List Int} {L : List (Int × List Int)} {t q dq : Int} : ∀ (B A : List Int) (s : DS), InvC N L t q dq A s → InvC N L t q dq (A ++ B) (disIn L q s B)
  | [], A, s, h => by rw [List.append_nil]; exact h
  | b :: B, A, s, h => by
    have := InvC.fold B (A ++ [b]) _ (h.step (i := b))
    rw [List.append_assoc] at this
    exact this
theorem mget_key {m : List (Int × Int)} {k d : Int} (h : mget m k = some d) : k ∈ m.map (·.1) := List.mem_map.2 ⟨_, mget_some h, rfl⟩
theorem mget_last {m : List (Int × Int)} {P Q : List Int} {q : Int} (hk : m.map (·.1) = P ++ q :: Q) (hn : (m.map (·.1)).Nodup) (hm : m.Pairwise (fun a b => a.2 ≤ b.2)) {d dy y : Int} (hq : mget m q = some d) (hy : y ∈ Q) (hd : mget m y = some dy) : d ≤ dy := by
  obtain ⟨i, hi, e1⟩ := List.getElem_of_mem (mget_some hq)
  obtain ⟨j, hj, e2⟩ := List.getElem_of_mem (mget_some hd)
  have hlen : m.length = P.length + (Q.length + 1) := by
    have := congrArg List.length hk
    rw [List.length_map, List.length_append] at this
    exact this
  have gi : (m.map (·.1))[i]'(by rw [List.length_map]; exact hi) = q := by rw [List.getElem_map, e1]
  have gj : (m.map (·.1))[j]'(by rw [List.length_map]; exact hj) = y := by rw [List.getElem_map, e2]
  have hiP : i = P.length := by
    have h2 : (m.map (·.1))[P.length]'(by rw [List.length_map]; omega) = q := by
      simp only [hk]
      rw [List.getElem_append_right (Nat.le_refl _)]
      simp
    exact (List.getElem_inj (h₀ := by rw [List.length_map]; exact hi) (h₁ := by rw [List.length_map]; omega) hn).1 (gi.trans h2.symm)
  obtain ⟨z, hz, e3⟩ := List.getElem_of_mem hy
  have hjP : j = P.length + 1 + z := by
    have h2 : (m.map (·.1))[P.length + 1 + z]'(by rw [List.length_map]; omega) = y := by
      simp only [hk]
      rw [List.getElem_append_right (by omega)]
      simp only [show P.length + 1 + z - P.length = z + 1 by omega, List.getElem_cons_succ]
      exact e3
    exact (List.getElem_inj (h₀ := by rw [List.length_map]; exact hj) (h₁ := by rw [List.length_map]; omega) hn).1 (gj.trans h2.symm)
  have := List.pairwise_iff_getElem.1 hm i j hi hj (by omega)
  rw [e1, e2] at this
  exact this
theorem InvB.next {N : List Int} {L : List (Int × List Int)} {t p : Int} {pp : Nat} {m : List (Int × Int)} {q : Int} {Q : List Int} (hG : GrOk N L) (h : InvB N L t (m, q :: Q)) (hD : InvD N L t pp (m, q :: Q)) : InvB N L t (disIn L q (m, Q) N) := by
  obtain ⟨P, k1, k2⟩ := h.ks
  have k1 : m.map (·.1) = P ++ q :: Q := k1
  have hqm : q ∈ m.map (·.1) := by rw [k1]; exact List.mem_append_right _ (List.mem_cons_self ..)
  obtain ⟨dq, hdq⟩ := mget_is hqm
  have hnd : (m.map (·.1)).Nodup := hD.nd
  have hqP : ¬ q ∈ P := fun hh => by
    rw [k1, List.nodup_append] at hnd
    exact hnd.2.2 q hh q (List.mem_cons_self ..) rfl
  have c0 : InvC N L t q dq [] (m, Q) := ⟨⟨P ++ [q], by rw [List.append_assoc]; exact k1, by simp, fun y hy hyq x hx => k2 y ((List.mem_append.1 hy).resolve_right fun hh => hyq (List.mem_singleton.1 hh)) x hx, fun x hx => absurd hx List.not_mem_nil⟩, h.mon, hdq, h.hd q Q rfl dq hdq, fun y hy d hd => mget_last k1 hnd h.mon hdq hy hd, h.t0⟩
  have c1 := c0.fold N
  rw [List.nil_append] at c1
  obtain ⟨P', j1, j2, j3, j4⟩ := c1.ks
  refine ⟨⟨P', j1, fun y hy x hx => ?_⟩, c1.mon, fun q' Q' hq' dq' hdq' e he => ?_, c1.t0⟩
  · by_cases e : y = q
    · subst e
      obtain ⟨dx, e1, e2⟩ := j4 x (hG.cl x y hx).1 hx
      exact ⟨dx, dq, e1, c1.qd, e2⟩
    · exact j3 y hy e x hx
  · have h1 := c1.low q' (by rw [hq']; exact List.mem_cons_self ..) dq' hdq'
    have h2 := c1.top e he
    omega
theorem invB0 (N : List Int) (L : List (Int × List Int)) (t : Int) : InvB N L t ([(t, 0)], [t]) := ⟨⟨[], rfl, fun y hy => absurd hy List.not_mem_nil⟩, List.pairwise_singleton _ _, fun q Q hq dq hdq e he => by
  injection hq with h1 h2
  subst h1
  have : mget [(t, (0 : Int))] t = some 0 := if_pos rfl
  have hdq : mget [(t, (0 : Int))] t = some dq := hdq
  rw [this] at hdq
  injection hdq with hdq
  subst hdq
  rw [List.mem_singleton.1 he]; show (0 : Int) ≤ 0 + 1; decide, if_pos rfl⟩
theorem disF_invB {N : List Int} {L : List (Int × List Int)} {t : Int} (hG : GrOk N L) : ∀ (f p : Nat) (s : DS), InvD N L t p s → InvB N L t s → N.length + 2 ≤ p + f → InvB N L t (disF N L f s, [])
  | 0, p, s, hD, hB, hf => by
    have h1 := hD.len
    have h2 := hD.len2
    omega
  | f + 1, p, (m, []), hD, hB, hf => by
    rw [disF_nil rfl]; exact hB
  | f + 1, p, (m, q :: Q), hD, hB, hf => by
    obtain ⟨h1, h2⟩ := hD.pop
    rw [disF_cons]
    exact disF_invB hG f (p + 1) _ (InvD.fold N _ h1 h2 (fun x hx => hx)).1 (hB.next (p := t) hG hD) (by omega)
theorem disS_invB {N : List Int} {L : List (Int × List Int)} (hG : GrOk N L) (t : Int) : InvB N L t (disS N L t, []) := disF_invB hG _ 0 _ (inv0 N L t) (invB0 N L t) (by omega)
theorem far_sound {N : List Int} {L : List (Int × List Int)} {t : Int} : ∀ (n : Nat) (x : Int), mget (disS N L t) x = some (n : Int) → Wlk L t n x
  | 0, x, h => by
    obtain ⟨p, hD⟩ := disS_inv N L t
    exact hD.zero _ (mget_some h) rfl
  | n + 1, x, h => by
    obtain ⟨p, hD⟩ := disS_inv N L t
    obtain ⟨y, hy, hm⟩ := hD.pos _ (mget_some h) (by show (0 : Int) < ((n + 1 : Nat) : Int); omega)
    have hm : mget (disS N L t) y = some (((n + 1 : Nat) : Int) - 1) := hm
    rw [show ((n + 1 : Nat) : Int) - 1 = (n : Int) by omega] at hm
    exact ⟨y, hy, far_sound n y hm⟩
theorem far_ge {N : List Int} {L : List (Int × List Int)} {t x d : Int} (h : mget (disS N L t) x = some d) : 0 ≤ d := by
  obtain ⟨p, hD⟩ := disS_inv N L t
  exact (hD.val _ (mget_some h)).1
theorem far_min {N : List Int} {L : List (Int × List Int)} (hG : GrOk N L) {t : Int} : ∀ (n : Nat) (x : Int), Wlk L t n x → ∃ d, mget (disS N L t) x = some d ∧ d ≤ n
  | 0, x, h => by
    have h : x = t := h
    subst h
    exact ⟨0, (disS_invB hG x).t0, Int.le_refl _⟩
  | n + 1, x, h => by
    obtain ⟨y, hy, hw⟩ := h
    obtain ⟨d, hd, hn⟩ := far_min hG n y hw
    obtain ⟨P, k1, k2⟩ := (disS_invB hG t).ks
    have hyP : y ∈ P := by
      have := mget_key hd
      have k1 : (disS N L t).map (·.1) = P ++ [] := k1
      rw [k1, List.append_nil] at this
      exact this
    obtain ⟨dx, dy, e1, e2, e3⟩ := k2 y hyP x hy
    have e2 : mget (disS N L t) y = some dy := e2
    rw [hd] at e2
    injection e2 with e2
    exact ⟨dx, e1, by omega⟩
theorem far_iff {N : List Int} {L : List (Int × List Int)} (hG : GrOk N L) {t x : Int} {n : Nat} : mget (disS N L t) x = some (n : Int) ↔ Wlk L t n x ∧ ∀ j, j < n → ¬ Wlk L t j x := ⟨fun h => ⟨far_sound n x h, fun j hj hw => by
  obtain ⟨d, hd, hn⟩ := far_min hG j x hw
  rw [h] at hd
  injection hd with hd
  omega⟩, fun ⟨h1, h2⟩ => by
  obtain ⟨d, hd, hn⟩ := far_min hG n x h1
  obtain ⟨k, rfl⟩ := Int.eq_ofNat_of_zero_le (far_ge hd)
  by_cases e : k < n
  · exact absurd (far_sound k x hd) (h2 k e)
  · obtain rfl : k = n := by omega
    exact hd⟩
theorem far_all {N : List Int} {L : List (Int × List Int)} {t : Int} : ∀ (n : Nat) (x : Int), mget (disS N L t) x = some (n : Int) → ∀ j : Nat, j ≤ n → (j : Int) ∈ (disS N L t).map (·.2)
  | 0, x, h, j, hj => by
    obtain rfl : j = 0 := by omega
    exact List.mem_map.2 ⟨_, mget_some h, rfl⟩
  | n + 1, x, h, j, hj => by
    by_cases e : j = n + 1
    · subst e
      exact List.mem_map.2 ⟨_, mget_some h, rfl⟩
    · obtain ⟨p, hD⟩ := disS_inv N L t
      obtain ⟨y, hy, hm⟩ := hD.pos _ (mget_some h) (by show (0 : Int) < ((n + 1 : Nat) : Int); omega)
      have hm : mget (disS N L t) y = some (((n + 1 : Nat) : Int) - 1) := hm
      rw [show ((n + 1 : Nat) : Int) - 1 = (n : Int) by omega] at hm
      exact far_all n y hm j (by omega)
theorem far_lt {N : List Int} {L : List (Int × List Int)} {t : Int} (ht : t ∈ N) {n : Nat} {x : Int} (h : mget (disS N L t) x = some (n : Int)) : n < N.length := by
  obtain ⟨p, hD⟩ := disS_inv N L t
  have h1 : (disS N L t).length ≤ N.length := by
    have := nd_len (B := N) hD.nd fun x hx => by
      obtain ⟨e, he, rfl⟩ := List.mem_map.1 hx
      rcases hD.sub e he with h1 | h1
      · rw [h1]; exact ht
      · exact h1
    rwa [List.length_map] at this
  have h2 := nd_len (A := (List.range (n + 1)).map Int.ofNat) (B := (disS N L t).map (·.2)) ((List.nodup_range).map Int.ofNat (fun a b hab e => hab (Int.ofNat.inj e))) fun y hy => by
    obtain ⟨j, hj, rfl⟩ := List.mem_map.1 hy
    exact far_all n x h j (by have := List.mem_range.1 hj; omega)
  rw [List.length_map, List.length_map, List.length_range] at h2
  omega
end Go.Proofs.YtcefhgomkehokaaGreat
namespace Go.Proofs.YtcefhgomkehokaaGreat
theorem least_ex {P : Nat → Prop} : ∀ n, P n → ∃ d, d ≤ n ∧ P d ∧ ∀ j, j < d → ¬ P j := by
  intro n
  induction n using Nat.strongRecOn with
  | ind n ih =>
    intro h
    by_cases hx : ∃ j, j < n ∧ P j
    · obtain ⟨j, hj, hp⟩ := hx
      obtain ⟨d, h1, h2, h3⟩ := ih j hj hp
      exact ⟨d, by omega, h2, h3⟩
    · exact ⟨n, Nat.le_refl _, h, fun j hj hp => hx ⟨j, hj, hp⟩⟩
def IsD (L : List (Int × List Int)) (t x : Int) (d : Nat) : Prop := 1 ≤ d ∧ Wlk L t d x ∧ ∀ j, 1 ≤ j → j < d → ¬ Wlk L t j x
theorem IsD.uniq {L : List (Int × List Int)} {t x : Int} {d d' : Nat} (h : IsD L t x d) (h' : IsD L t x d') : d = d' := by
  rcases Nat.lt_trichotomy d d' with e | e | e
  · exact absurd h.2.1 (h'.2.2 d h.1 e)
  · exact e
  · exact absurd h'.2.1 (h.2.2 d' h'.1 e)
theorem IsD.ex {L : List (Int × List Int)} {t x : Int} {n : Nat} (h1 : 1 ≤ n) (h : Wlk L t n x) : ∃ d, d ≤ n ∧ IsD L t x d := by
  obtain ⟨d, e1, e2, e3⟩ := least_ex (P := fun j => 1 ≤ j ∧ Wlk L t j x) n ⟨h1, h⟩
  exact ⟨d, e1, e2.1, e2.2, fun j hj hlt hw => e3 j hlt ⟨hj, hw⟩⟩
theorem IsD.kid {L : List (Int × List Int)} {t x y : Int} {d : Nat} (h : IsD L t x (d + 1)) (hd : 1 ≤ d) (hy : y ∈ sget L x) (hw : Wlk L t d y) : IsD L t y d :=
  ⟨hd, hw, fun j hj hlt hwj => h.2.2 (j + 1) (by omega) (by omega) ⟨y, hy, hwj⟩⟩
theorem pth_spec {N : List Int} {L : List (Int × List Int)} {W : Nat → List Int} (hG : GrOk N L) (hW : ∀ a, a < N.length → W a = sget L (lF 0 N a)) (t : Int) : ∀ (r a : Nat), a < N.length → ∀ d : Nat, 1 ≤ d → d ≤ r → (pthG N W t r a = d ↔ IsD L t (lF 0 N a) d)
  | 0, a, ha, d, h1, h2 => by omega
  | r + 1, a, ha, d, h1, h2 => by
    have ih := fun b hb => pth_spec hG hW t r b hb
    rw [pthG_succ]
    by_cases h0 : pthG N W t r a = 0
    · rw [if_neg (fun h => h h0)]
      have hno : ∀ j, 1 ≤ j → j ≤ r → ¬ Wlk L t j (lF 0 N a) := fun j hj1 hj2 hw => by
        obtain ⟨e, e1, e2⟩ := IsD.ex hj1 hw
        have := (ih a ha e e2.1 (by omega)).2 e2
        rw [h0] at this
        have := e2.1
        omega
      have key : pthA N W t (pthG N W t r) (r + 1 : Nat) a N.length = true ↔ IsD L t (lF 0 N a) (r + 1) := by
        unfold pthA
        rw [List.any_eq_true]
        constructor
        · rintro ⟨k, hk, hc⟩
          have hk := List.mem_range.1 hk
          unfold pthC at hc
          rw [Bool.and_eq_true, Bool.or_eq_true, decide_eq_true_eq, decide_eq_true_eq, decide_eq_true_eq, hW a ha] at hc
          refine ⟨by omega, ⟨lF 0 N k, hc.1, ?_⟩, fun j hj hlt => hno j hj (by omega)⟩
          rcases hc.2 with ⟨c1, c2⟩ | ⟨c1, c2⟩
          · obtain rfl : r = 0 := by omega
            exact c2
          · exact ((ih k hk r (by omega) (Nat.le_refl _)).1 (by omega)).2.1
        · intro hD
          obtain ⟨y, hy, hw⟩ := hD.2.1
          obtain ⟨k, hk, e⟩ := List.getElem_of_mem (hG.cl _ y hy).2
          rw [← lF_get' hk] at e
          subst e
          refine ⟨k, List.mem_range.2 hk, ?_⟩
          unfold pthC
          rw [Bool.and_eq_true, Bool.or_eq_true, decide_eq_true_eq, decide_eq_true_eq, decide_eq_true_eq, hW a ha]
          refine ⟨hy, ?_⟩
          by_cases hr : r = 0
          · subst hr
            exact .inl ⟨rfl, hw⟩
          · refine .inr ⟨by omega, ?_⟩
            have := (ih k hk r (by omega) (Nat.le_refl _)).2 (hD.kid (by omega) hy hw)
            omega
      by_cases hd : d = r + 1
      · subst hd
        rw [← key]
        by_cases hp : pthA N W t (pthG N W t r) (r + 1 : Nat) a N.length = true
        · rw [if_pos hp]; exact ⟨fun _ => hp, fun _ => rfl⟩
        · rw [if_neg hp]
          constructor
          · intro h; omega
          · intro h; exact absurd h hp
      · have hno2 : ¬ IsD L t (lF 0 N a) d := fun h => hno d h1 (by omega) h.2.1
        constructor
        · intro h
          split at h <;> omega
        · intro h; exact absurd h hno2
    · rw [if_pos h0]
      by_cases hd : d ≤ r
      · exact ih a ha d h1 hd
      · have hle := pthG_le (N := N) (W := W) (t := t) r a
        constructor
        · intro h; omega
        · intro h
          obtain ⟨v, hv⟩ := Int.eq_ofNat_of_zero_le hle.1
          have := (ih a ha v (by omega) (by omega)).1 hv
          have := this.uniq h
          omega
def Nx2 (m : List (Int × Int)) (l : List Int) (b : Int) : Prop := (b = -1 ∧ ∀ i, i ∈ l → mget m i = none) ∨ (0 ≤ b ∧ b ∈ l ∧ ∃ d, mget m b = some d ∧ (∀ i, i ∈ l → ∀ d', mget m i = some d' → d ≤ d') ∧ ∀ i, i ∈ l → mget m i = some d → b ≤ i)
theorem nx2_snoc {m : List (Int × Int)} {l : List Int} {b x : Int} (h : Nx2 m l b) (hx : 0 ≤ x) (hl : ∀ i, i ∈ l → i < x) : Nx2 m (l ++ [x]) (nxtG m b x) := by
  unfold nxtG
  cases hm : mget m x with
  | none =>
    show Nx2 m (l ++ [x]) b
    rcases h with ⟨e, ih⟩ | ⟨e0, e1, d, e2, e3, e4⟩
    · refine .inl ⟨e, fun i hi => ?_⟩
      rcases List.mem_append.1 hi with hi | hi
      · exact ih i hi
      · rw [List.mem_singleton.1 hi]; exact hm
    · refine .inr ⟨e0, List.mem_append_left _ e1, d, e2, fun i hi d' hd' => ?_, fun i hi hd' => ?_⟩
      · rcases List.mem_append.1 hi with hi | hi
        · exact e3 i hi d' hd'
        · rw [List.mem_singleton.1 hi, hm] at hd'; cases hd'
      · rcases List.mem_append.1 hi with hi | hi
        · exact e4 i hi hd'
        · rw [List.mem_singleton.1 hi, hm] at hd'; cases hd'
  | some dx =>
    show Nx2 m (l ++ [x]) (if b < 0 ∨ dx < (mget m b).getD 0 then x else b)
    by_cases hc : b < 0 ∨ dx < (mget m b).getD 0
    · rw [if_pos hc]
      have hmore : ∀ i, i ∈ l → ∀ d', mget m i = some d' → dx < d' := fun i hi d' hd' => by
        rcases h with ⟨e, ih⟩ | ⟨e0, e1, d, e2, e3, e4⟩
        · rw [ih i hi] at hd'; cases hd'
        · rcases hc with hc | hc
          · omega
          · rw [e2] at hc
            have hc : dx < d := hc
            have := e3 i hi d' hd'
            omega
      refine .inr ⟨hx, List.mem_append_right _ (List.mem_singleton.2 rfl), dx, hm, fun i hi d' hd' => ?_, fun i hi hd' => ?_⟩
      · rcases List.mem_append.1 hi with hi | hi
        · exact Int.le_of_lt (hmore i hi d' hd')
        · rw [List.mem_singleton.1 hi, hm] at hd'
          injection hd' with hd'
          omega
      · rcases List.mem_append.1 hi with hi | hi
        · have := hmore i hi dx hd'; omega
        · rw [List.mem_singleton.1 hi]; exact Int.le_refl _
    · rw [if_neg hc]
      rcases h with ⟨e, ih⟩ | ⟨e0, e1, d, e2, e3, e4⟩
      · exact absurd (.inl (by omega)) hc
      · rw [e2] at hc
        have hdx : ¬ dx < d := fun h => hc (.inr h)
        refine .inr ⟨e0, List.mem_append_left _ e1, d, e2, fun i hi d' hd' => ?_, fun i hi hd' => ?_⟩
        · rcases List.mem_append.1 hi with hi | hi
          · exact e3 i hi d' hd'
          · rw [List.mem_singleton.1 hi, hm] at hd'
            injection hd' with hd'
            omega
        · rcases List.mem_append.1 hi with hi | hi
          · exact e4 i hi hd'
          · rw [List.mem_singleton.1 hi]
            exact Int.le_of_lt (hl b e1)
theorem nx2_all {m : List (Int × Int)} {l : List Int} (h0 : ∀ i, i ∈ l → 0 ≤ i) (ha : l.Pairwise (· < ·)) : Nx2 m l (nxtF m l) := by
  have : ∀ j, j ≤ l.length → Nx2 m (l.take j) (nxtF m (l.take j)) := by
    intro j
    induction j with
    | zero => intro _; exact .inl ⟨rfl, fun i hi => absurd hi (by simp)⟩
    | succ j ih =>
      intro hj
      rw [List.take_succ_eq_append_getElem (by omega), nxtF_snoc]
      refine nx2_snoc (ih (by omega)) (h0 _ (List.getElem_mem (by omega))) fun i hi => ?_
      obtain ⟨z, hz, e⟩ := List.mem_take_iff_getElem.1 hi
      rw [← e]
      exact List.pairwise_iff_getElem.1 ha z j (by omega) (by omega) (by omega)
  have := this l.length (Nat.le_refl _)
  rwa [List.take_length] at this
def fstN (L : List (Int × List Int)) (m : List (Int × Int)) (at_ : Int) (n : Nat) : Int := ((sget L at_).find? fun y => decide (mget m y = some (n : Int))).getD 0
def chn (L : List (Int × List Int)) (m : List (Int × Int)) : Nat → Int → List Int
  | 0, _ => []
  | n + 1, at_ => fstN L m at_ (n + 1) :: chn L m n (fstN L m at_ (n + 1))
theorem chn_len {L : List (Int × List Int)} {m : List (Int × Int)} : ∀ (n : Nat) (x : Int), (chn L m n x).length = n
  | 0, _ => rfl
  | n + 1, x => by rw [chn, List.length_cons, chn_len n]
theorem fstN_is {L : List (Int × List Int)} {m : List (Int × Int)} {at_ : Int} {n : Nat} (h : ∃ y, y ∈ sget L at_ ∧ mget m y = some (n : Int)) : fstN L m at_ n ∈ sget L at_ ∧ mget m (fstN L m at_ n) = some (n : Int) := by
  obtain ⟨y, hy, hm⟩ := h
  unfold fstN
  cases hf : (sget L at_).find? fun y => decide (mget m y = some (n : Int)) with
  | none =>
    rw [List.find?_eq_none] at hf
    exact absurd (decide_eq_true hm) (hf y hy)
  | some z => exact ⟨List.mem_of_find?_eq_some hf, of_decide_eq_true (List.find?_some (p := fun y => decide (mget m y = some (n : Int))) hf)⟩
theorem fstN_le {L : List (Int × List Int)} {m : List (Int × Int)} {at_ : Int} {n : Nat} (ha : (sget L at_).Pairwise (· < ·)) {y : Int} (hy : y ∈ sget L at_) (hm : mget m y = some (n : Int)) : fstN L m at_ n ≤ y := by
  unfold fstN
  cases hf : (sget L at_).find? fun y => decide (mget m y = some (n : Int)) with
  | none =>
    rw [List.find?_eq_none] at hf
    exact absurd (decide_eq_true hm) (hf y hy)
  | some z =>
    show z ≤ y
    rw [List.find?_eq_some_iff_getElem] at hf
    obtain ⟨_, i, hi, e1, e2⟩ := hf
    obtain ⟨j, hj, e3⟩ := List.getElem_of_mem hy
    rw [← e1, ← e3]
    by_cases hij : i = j
    · subst hij; exact Int.le_refl _
    · by_cases hlt : i < j
      · exact Int.le_of_lt (List.pairwise_iff_getElem.1 ha i j hi hj hlt)
      · have := e2 j (by omega)
        rw [e3, decide_eq_true hm] at this
        cases this
theorem far_zero {N : List Int} {L : List (Int × List Int)} {start x : Int} (h : mget (disS N L start) x = some 0) : x = start := far_sound 0 x h
theorem isD_or {L : List (Int × List Int)} (x : Int) : (∃ n, IsD L x x (n + 1)) ∨ ∀ d, ¬ IsD L x x d := by
  by_cases h : ∃ d, IsD L x x d
  · obtain ⟨d, hd⟩ := h
    have := hd.1
    exact .inl ⟨d - 1, by rw [show d - 1 + 1 = d by omega]; exact hd⟩
  · exact .inr fun d hd => h ⟨d, hd⟩
section
variable {N : List Int} {L : List (Int × List Int)} (hG : GrOk N L)
include hG
theorem nxt_is {start at_ : Int} {n : Nat} (h : ∃ y, y ∈ sget L at_ ∧ mget (disS N L start) y = some (n : Int)) (hmin : ∀ y, y ∈ sget L at_ → ∀ d, mget (disS N L start) y = some d → (n : Int) ≤ d) : nxtF (disS N L start) (sget L at_) = fstN L (disS N L start) at_ n := by
  obtain ⟨f1, f2⟩ := fstN_is h
  rcases nx2_all (m := disS N L start) (l := sget L at_) (fun i hi => hG.pos i (hG.cl _ _ hi).2) (hG.lasc at_) with ⟨_, h2⟩ | ⟨_, e1, d, e2, e3, e4⟩
  · rw [h2 _ f1] at f2; cases f2
  · have hd : d = n := by
      have a1 := e3 _ f1 _ f2
      have a2 := hmin _ e1 d e2
      omega
    subst hd
    have b1 := e4 _ f1 f2
    have b2 := fstN_le (hG.lasc at_) e1 e2
    omega
theorem far_kid {start x : Int} {n : Nat} (h : mget (disS N L start) x = some ((n + 1 : Nat) : Int)) : (∃ y, y ∈ sget L x ∧ mget (disS N L start) y = some (n : Int)) ∧ ∀ y, y ∈ sget L x → ∀ d, mget (disS N L start) y = some d → (n : Int) ≤ d := by
  obtain ⟨h1, h2⟩ := (far_iff hG).1 h
  refine ⟨?_, fun y hy d hd => ?_⟩
  · obtain ⟨y, hy, hw⟩ := h1
    exact ⟨y, hy, (far_iff hG).2 ⟨hw, fun j hj hwj => h2 (j + 1) (by omega) ⟨y, hy, hwj⟩⟩⟩
  · obtain ⟨k, rfl⟩ := Int.eq_ofNat_of_zero_le (far_ge hd)
    have hw := ((far_iff hG).1 hd).1
    by_cases e : k < n
    · exact absurd ⟨y, hy, hw⟩ (h2 (k + 1) (by omega))
    · omega
theorem far_start (start : Int) : mget (disS N L start) start = some 0 := (disS_invB hG start).t0
theorem cycF_chn {start : Int} : ∀ (n : Nat) (at_ : Int) (out : List Int) (f : Nat), n < f → (∃ y, y ∈ sget L at_ ∧ mget (disS N L start) y = some (n : Int)) → (∀ y, y ∈ sget L at_ → ∀ d, mget (disS N L start) y = some d → (n : Int) ≤ d) → cycF (disS N L start) L start f at_ out = (out ++ [at_]) ++ chn L (disS N L start) n at_
  | 0, at_, out, 0, hf, h, hm => by omega
  | 0, at_, out, f + 1, hf, h, hm => by
    obtain ⟨f1, f2⟩ := fstN_is h
    have e := far_zero f2
    rw [cycF, nxt_is hG h hm, e]
    have := hG.pos start (by rw [← e]; exact (hG.cl _ _ f1).2)
    rw [if_neg (by omega), if_pos rfl, chn, List.append_nil]
  | n + 1, at_, out, 0, hf, h, hm => by omega
  | n + 1, at_, out, f + 1, hf, h, hm => by
    obtain ⟨f1, f2⟩ := fstN_is h
    have hne : fstN L (disS N L start) at_ (n + 1) ≠ start := fun e => by
      rw [e, far_start hG] at f2
      injection f2 with f2
      omega
    rw [cycF, nxt_is hG h hm]
    have := hG.pos _ (hG.cl _ _ f1).2
    obtain ⟨k1, k2⟩ := far_kid hG f2
    rw [if_neg (by omega), if_neg hne, cycF_chn n _ _ f (by omega) k1 k2, chn, List.append_assoc, List.append_assoc]
    simp
theorem start_kid {start : Int} {n : Nat} (h : IsD L start start (n + 1)) : (∃ y, y ∈ sget L start ∧ mget (disS N L start) y = some (n : Int)) ∧ ∀ y, y ∈ sget L start → ∀ d, mget (disS N L start) y = some d → (n : Int) ≤ d := by
  refine ⟨?_, fun y hy d hd => ?_⟩
  · obtain ⟨y, hy, hw⟩ := h.2.1
    refine ⟨y, hy, (far_iff hG).2 ⟨hw, fun j hj hwj => h.2.2 (j + 1) (by omega) (by omega) ⟨y, hy, hwj⟩⟩⟩
  · obtain ⟨k, rfl⟩ := Int.eq_ofNat_of_zero_le (far_ge hd)
    have hw := ((far_iff hG).1 hd).1
    by_cases e : k < n
    · exact absurd ⟨y, hy, hw⟩ (h.2.2 (k + 1) (by omega) (by omega))
    · omega
theorem isD_le {start : Int} {n : Nat} (hs : start ∈ N) (h : IsD L start start (n + 1)) : n + 1 ≤ N.length := by
  obtain ⟨⟨y, hy, hm⟩, _⟩ := start_kid hG h
  have := far_lt hs hm
  omega
theorem cycS_yes {start : Int} {n : Nat} (hs : start ∈ N) (h : IsD L start start (n + 1)) : cycS N L start = start :: chn L (disS N L start) n start := by
  obtain ⟨h1, h2⟩ := start_kid hG h
  have := isD_le hG hs h
  unfold cycS
  rw [cycF_chn hG n start [] (N.length + 4) (by omega) h1 h2]
  rfl
theorem cycS_no {start : Int} (h : ∀ d, ¬ IsD L start start d) : cycS N L start = [] := by
  have hno : ∀ y, y ∈ sget L start → mget (disS N L start) y = none := fun y hy => by
    cases hm : mget (disS N L start) y with
    | none => rfl
    | some d =>
      obtain ⟨k, rfl⟩ := Int.eq_ofNat_of_zero_le (far_ge hm)
      obtain ⟨e, _, he⟩ := IsD.ex (n := k + 1) (by omega) ⟨y, hy, ((far_iff hG).1 hm).1⟩
      exact absurd he (h e)
  unfold cycS
  rw [cycF]
  rcases nx2_all (m := disS N L start) (l := sget L start) (fun i hi => hG.pos i (hG.cl _ _ hi).2) (hG.lasc start) with ⟨e, _⟩ | ⟨_, e1, d, e2, _, _⟩
  · rw [e, if_pos (by decide)]
  · rw [hno _ e1] at e2; cases e2
variable {W : Nat → List Int} (hW : ∀ a, a < N.length → W a = sget L (lF 0 N a))
include hW
theorem nxtK_is {start : Int} {D n a : Nat} (hD : IsD L start start D) (hn1 : 1 ≤ n) (hnD : n < D) (ha : a < N.length) (hle : D ≤ N.length) (h : ∃ y, y ∈ sget L (lF 0 N a) ∧ mget (disS N L start) y = some (n : Int)) : lF 0 N (nxtK N W (pthG N W start N.length) a (n : Int)) = fstN L (disS N L start) (lF 0 N a) n := by
  obtain ⟨f1, f2⟩ := fstN_is h
  have hC : ∀ k, k < N.length → (nxtC N W (pthG N W start N.length) a (n : Int) k = true ↔ lF 0 N k ∈ sget L (lF 0 N a) ∧ mget (disS N L start) (lF 0 N k) = some (n : Int)) := fun k hk => by
    unfold nxtC
    rw [Bool.and_eq_true, decide_eq_true_eq, decide_eq_true_eq, hW a ha, pth_spec hG hW start N.length k hk n hn1 (by omega), far_iff hG]
    by_cases e : lF 0 N k = start
    · rw [e]
      constructor
      · rintro ⟨h1, h2⟩
        have := h2.uniq hD; omega
      · rintro ⟨h1, h2, h3⟩
        exact absurd (show Wlk L start 0 start from rfl) (h3 0 (by omega))
    · constructor
      · rintro ⟨h1, h2⟩
        refine ⟨h1, h2.2.1, fun j hj hw => ?_⟩
        cases j with
        | zero => exact e hw
        | succ j => exact h2.2.2 (j + 1) (by omega) hj hw
      · rintro ⟨h1, h2, h3⟩
        exact ⟨h1, hn1, h2, fun j _ hj => h3 j hj⟩
  obtain ⟨i, hi, e⟩ := List.getElem_of_mem (hG.cl _ _ f1).2
  rw [← lF_get' hi] at e
  have hasc : ∀ i j, i < j → j < N.length → lF 0 N i < lF 0 N j := fun i j hij hj => by
    have := List.pairwise_iff_getElem.1 hG.asc i j (by omega) hj hij
    rwa [lF_get' (by omega), lF_get' hj]
  have hone : ∀ k, k < N.length → nxtC N W (pthG N W start N.length) a (n : Int) k = true → (∀ j, j < k → nxtC N W (pthG N W start N.length) a (n : Int) j = false) → k = i := fun k hk hc hno => by
    have hci : nxtC N W (pthG N W start N.length) a (n : Int) i = true := (hC i hi).2 (by rw [e]; exact ⟨f1, f2⟩)
    obtain ⟨c1, c2⟩ := (hC k hk).1 hc
    have h1 := fstN_le (hG.lasc _) c1 c2
    rw [← e] at h1
    by_cases h2 : i < k
    · rw [hno i h2] at hci; cases hci
    · by_cases h3 : k < i
      · have := hasc k i h3 hi; omega
      · omega
  unfold nxtK
  cases hf : (List.range (N.length - 1)).find? (nxtC N W (pthG N W start N.length) a (n : Int)) with
  | some k =>
    show lF 0 N k = _
    have hk := List.mem_range.1 (List.mem_of_find?_eq_some hf)
    have hc := List.find?_some hf
    rw [List.find?_range_eq_some] at hf
    rw [hone k (by omega) hc fun j hj => by have := hf.2.2 j hj; simpa using this]
    exact e
  | none =>
    show lF 0 N (N.length - 1) = _
    rw [List.find?_eq_none] at hf
    have hci : nxtC N W (pthG N W start N.length) a (n : Int) i = true := (hC i hi).2 (by rw [e]; exact ⟨f1, f2⟩)
    by_cases h3 : i < N.length - 1
    · exact absurd hci (hf i (List.mem_range.2 h3))
    · rw [show N.length - 1 = i by omega]; exact e
theorem cycL_chn {start : Int} {D : Nat} (hD : IsD L start start D) (hle : D ≤ N.length) : ∀ (n a : Nat) (out : List Int), n < D → a < N.length → (1 ≤ n → ∃ y, y ∈ sget L (lF 0 N a) ∧ mget (disS N L start) y = some (n : Int)) → cycL N W (pthG N W start N.length) n a out = out ++ chn L (disS N L start) n (lF 0 N a)
  | 0, a, out, _, _, _ => by rw [cycL, chn, List.append_nil]
  | n + 1, a, out, hn, ha, h => by
    have h := h (by omega)
    have hk := nxtK_is hG hW hD (by omega) hn ha hle h
    have hlt := nxtK_lt (N := N) (W := W) (d := pthG N W start N.length) (at_ := a) (m := ((n + 1 : Nat) : Int)) (by omega)
    obtain ⟨f1, f2⟩ := fstN_is h
    rw [cycL, cycL_chn hD hle n _ _ (by omega) hlt (fun _ => by rw [hk]; exact (far_kid hG f2).1), hk, chn, List.append_assoc]
    rfl
theorem cycD_yes {i n : Nat} (hi : i < N.length) (h : IsD L (lF 0 N i) (lF 0 N i) (n + 1)) : cycD N W i = ((n + 1 : Nat) : Int) :=
  (pth_spec hG hW (lF 0 N i) N.length i hi (n + 1) (by omega) (isD_le hG (by rw [lF_get' hi]; exact List.getElem_mem hi) h)).2 h
theorem cycD_no {i : Nat} (hi : i < N.length) (h : ∀ d, ¬ IsD L (lF 0 N i) (lF 0 N i) d) : cycD N W i = 0 := by
  have hle := pthG_le (N := N) (W := W) (t := lF 0 N i) N.length i
  unfold cycD
  obtain ⟨v, hv⟩ := Int.eq_ofNat_of_zero_le hle.1
  by_cases h0 : v = 0
  · rw [hv, h0]; rfl
  · exact absurd ((pth_spec hG hW (lF 0 N i) N.length i hi v (by omega) (by omega)).1 hv) (h v)
theorem bst_fst : ∀ i, i ≤ N.length → (bstF N L (N.take i) = [] ∧ (fstS N W i).2 = -1 ∧ ∀ j, j < i → ∀ d, ¬ IsD L (lF 0 N j) (lF 0 N j) d) ∨ ∃ k n, k < i ∧ IsD L (lF 0 N k) (lF 0 N k) (n + 1) ∧ fstS N W i = (((n + 1 : Nat) : Int), (k : Int)) ∧ bstF N L (N.take i) = cycS N L (lF 0 N k) ∧ (∀ j, j < i → ∀ d, IsD L (lF 0 N j) (lF 0 N j) d → n + 1 ≤ d) ∧ ∀ j, j < k → ∀ d, IsD L (lF 0 N j) (lF 0 N j) d → n + 1 < d
  | 0, _ => .inl ⟨rfl, rfl, fun j hj => absurd hj (Nat.not_lt_zero j)⟩
  | i + 1, hi => by
    have hil : i < N.length := by omega
    have hm : lF 0 N i ∈ N := by rw [lF_get' hil]; exact List.getElem_mem hil
    have hf : fstS N W (i + 1) = if 0 < cycD N W i ∧ ((fstS N W i).2 < 0 ∨ cycD N W i < (fstS N W i).1) then (cycD N W i, (i : Int)) else fstS N W i := rfl
    rw [List.take_succ_eq_append_getElem hil, ← lF_get' hil, bstF_snoc, hf]
    unfold bstG
    rcases isD_or (L := L) (lF 0 N i) with ⟨n, hn⟩ | hno
    · rw [cycD_yes hG hW hil hn, cycS_yes hG hm hn]
      have hlen : (lF 0 N i :: chn L (disS N L (lF 0 N i)) n (lF 0 N i)).length = n + 1 := by rw [List.length_cons, chn_len]
      rcases bst_fst i (by omega) with ⟨e1, e2, e3⟩ | ⟨k, n', hk, hD', e1, e2, e3, e4⟩
      · rw [e1, if_pos ⟨by simp, .inl rfl⟩, if_pos ⟨by omega, .inl (by omega)⟩]
        refine .inr ⟨i, n, by omega, hn, rfl, (cycS_yes hG hm hn).symm, fun j hj d hd => ?_, fun j hj d hd => absurd hd (e3 j hj d)⟩
        by_cases e : j = i
        · subst e; rw [hd.uniq hn]; exact Nat.le_refl _
        · exact absurd hd (e3 j (by omega) d)
      · have hmk : lF 0 N k ∈ N := by rw [lF_get' (by omega)]; exact List.getElem_mem _
        have hlk : (cycS N L (lF 0 N k)).length = n' + 1 := by rw [cycS_yes hG hmk hD', List.length_cons, chn_len]
        rw [e1, e2]
        by_cases hlt : n < n'
        · rw [if_pos ⟨by simp, .inr (by rw [hlen, hlk]; omega)⟩, if_pos ⟨by omega, .inr (by show ((n + 1 : Nat) : Int) < ((n' + 1 : Nat) : Int); omega)⟩]
          refine .inr ⟨i, n, by omega, hn, rfl, (cycS_yes hG hm hn).symm, fun j hj d hd => ?_, fun j hj d hd => ?_⟩
          · by_cases e : j = i
            · subst e; rw [hd.uniq hn]; exact Nat.le_refl _
            · have := e3 j (by omega) d hd; omega
          · have := e3 j hj d hd; omega
        · have hne : cycS N L (lF 0 N k) ≠ [] := fun e => by rw [e] at hlk; cases hlk
          rw [if_neg (by rintro ⟨_, h | h⟩; exact hne h; rw [hlen, hlk] at h; omega), if_neg (by
            rintro ⟨_, h | h⟩
            · have h : (k : Int) < 0 := h; omega
            · have h : ((n + 1 : Nat) : Int) < ((n' + 1 : Nat) : Int) := h; omega)]
          refine .inr ⟨k, n', by omega, hD', rfl, rfl, fun j hj d hd => ?_, e4⟩
          by_cases e : j = i
          · subst e; rw [hd.uniq hn]; omega
          · exact e3 j (by omega) d hd
    · rw [cycD_no hG hW hil hno, cycS_no hG hno, if_neg (fun h => h.1 rfl), if_neg (fun h => absurd h.1 (by decide))]
      rcases bst_fst i (by omega) with ⟨e1, e2, e3⟩ | ⟨k, n', hk, hD', e1, e2, e3, e4⟩
      · refine .inl ⟨e1, e2, fun j hj d hd => ?_⟩
        by_cases e : j = i
        · subst e; exact hno d hd
        · exact e3 j (by omega) d hd
      · refine .inr ⟨k, n', by omega, hD', e1, e2, fun j hj d hd => ?_, e4⟩
        by_cases e : j = i
        · subst e; exact absurd hd (hno d)
        · exact e3 j (by omega) d hd
theorem bst_cyc21 : bstF N L N = cyc21 N W := by
  have h := bst_fst hG hW N.length (Nat.le_refl _)
  rw [List.take_length] at h
  unfold cyc21
  rcases h with ⟨e1, e2, e3⟩ | ⟨k, n, hk, hD, e1, e2, e3, e4⟩
  · rw [e1, e2, if_pos (by decide)]
  · have hmk : lF 0 N k ∈ N := by rw [lF_get' hk]; exact List.getElem_mem _
    rw [e1, e2, cycS_yes hG hmk hD, if_neg (by show ¬ (k : Int) < 0; omega)]
    show _ = cycL N W (pthG N W (lF 0 N ((k : Int).toNat)) N.length) (((n + 1 : Nat) : Int) - 1).toNat ((k : Int).toNat) [lF 0 N ((k : Int).toNat)]
    rw [Int.toNat_natCast, show (((n + 1 : Nat) : Int) - 1).toNat = n by omega, cycL_chn hG hW hD (isD_le hG hmk hD) n k _ (by omega) hk (fun _ => (start_kid hG hD).1)]
    rfl
end
end Go.Proofs.YtcefhgomkehokaaGreat
namespace Go.Proofs.YtcefhgomkehokaaGreat
theorem OrdInv.snoc {N : List Int} {L : List (Int × List Int)} {out : List Int} {x : Int} (h : OrdInv N L out) (hf : N.find? (rdyB L out) = some x) : OrdInv N L (out ++ [x]) := fun q hq => by
  rw [List.length_append] at hq
  have hq : q < out.length + 1 := hq
  by_cases e : q = out.length
  · subst e
    rw [List.take_left, hf]
    exact congrArg some (lF_at (d := (0 : Int)) (y := x) (l := out) (r := [])).symm
  · rw [List.take_append_of_le_length (by omega), h q (by omega), lF_lt (by omega)]
theorem ordF_inv {N : List Int} {L : List (Int × List Int)} : ∀ (f : Nat) (out : List Int), OrdInv N L out → (ordF N L f out).2 = 0 → OrdInv N L (ordF N L f out).1 ∧ (ordF N L f out).1.length = out.length + f
  | 0, out, h, _ => ⟨h, rfl⟩
  | f + 1, out, h, h0 => by
    cases hf : N.find? (rdyB L out) with
    | none => rw [ordF_no hf] at h0; exact absurd h0 (by decide)
    | some x =>
      rw [ordF_yes hf] at h0 ⊢
      obtain ⟨h1, h2⟩ := ordF_inv f _ (h.snoc hf) h0
      refine ⟨h1, ?_⟩
      rw [h2, List.length_append]
      show out.length + 1 + f = _
      omega
theorem ord_wlk {N : List Int} {L : List (Int × List Int)} {o : List Int} (h : OrdInv N L o) {t : Int} : ∀ (n p : Nat), p < o.length → Wlk L t (n + 1) (lF 0 o p) → t ∈ o.take p
  | 0, p, hp, ⟨y, hy, hw⟩ => by
    have hw : y = t := hw
    subst hw
    exact (h.at hp).2.2 y hy
  | n + 1, p, hp, ⟨y, hy, hw⟩ => by
    obtain ⟨i, hi, e⟩ := List.mem_take_iff_getElem.1 ((h.at hp).2.2 y hy)
    have e2 : lF 0 o i = y := by rw [lF_get' (by omega)]; exact e
    rw [← e2] at hw
    obtain ⟨j, hj, e3⟩ := List.mem_take_iff_getElem.1 (ord_wlk h n i (by omega) hw)
    exact List.mem_take_iff_getElem.2 ⟨j, by omega, e3⟩
theorem ord_nocyc {N : List Int} {L : List (Int × List Int)} (hG : GrOk N L) (h0 : (ordF N L N.length []).2 = 0) (x : Int) (d : Nat) : ¬ IsD L x x d := by
  obtain ⟨h1, h2⟩ := ordF_inv N.length [] (fun q hq => absurd hq (Nat.not_lt_zero q)) h0
  generalize (ordF N L N.length []).1 = o at h1 h2
  rintro ⟨hd, hw, _⟩
  obtain ⟨n, rfl⟩ : ∃ n, d = n + 1 := ⟨d - 1, by omega⟩
  have hxN : x ∈ N := by
    obtain ⟨y, hy, _⟩ := hw
    exact (hG.cl x y hy).1
  have hxo : x ∈ o := Classical.byContradiction fun hno => by
    have := nd_len (A := x :: o) (B := N) (List.nodup_cons.2 ⟨hno, h1.nd⟩) fun y hy => by
      rcases List.mem_cons.1 hy with rfl | hy
      · exact hxN
      · obtain ⟨m, hm, rfl⟩ := List.getElem_of_mem hy
        have := (h1.at hm).1
        rwa [lF_get' hm] at this
    rw [List.length_cons] at this
    simp only [List.length_nil] at h2
    omega
  obtain ⟨p, hp, e⟩ := List.getElem_of_mem hxo
  have e2 : lF 0 o p = x := by rw [lF_get' hp]; exact e
  have hw2 : Wlk L x (n + 1) (lF 0 o p) := by rw [e2]; exact hw
  have := ord_wlk h1 n p hp hw2
  rw [← e2] at this
  exact (h1.at hp).2.1 this
theorem ordF_stuck {N : List Int} {L : List (Int × List Int)} : ∀ (f : Nat) (out : List Int), OrdInv N L out → out.length + f = N.length → (ordF N L f out).2 ≠ 0 → ∃ out', OrdInv N L out' ∧ out'.length < N.length ∧ N.find? (rdyB L out') = none
  | 0, out, h, hl, h0 => absurd rfl h0
  | f + 1, out, h, hl, h0 => by
    cases hf : N.find? (rdyB L out) with
    | none => exact ⟨out, h, by omega, hf⟩
    | some x =>
      rw [ordF_yes hf] at h0
      exact ordF_stuck f _ (h.snoc hf) (by rw [List.length_append]; show out.length + 1 + f = _; omega) h0
theorem path_ex {N : List Int} {L : List (Int × List Int)} {out : List Int} (hG : GrOk N L) (hf : N.find? (rdyB L out) = none) {x : Int} (hx : x ∈ N) (hno : ¬ x ∈ out) : ∀ n : Nat, ∃ xs : List Int, xs.length = n + 1 ∧ (∀ y, y ∈ xs → y ∈ N ∧ ¬ y ∈ out) ∧ ∀ i, i + 1 < xs.length → lF 0 xs (i + 1) ∈ sget L (lF 0 xs i)
  | 0 => ⟨[x], rfl, fun y hy => by rw [List.mem_singleton.1 hy]; exact ⟨hx, hno⟩, fun i hi => by simp at hi⟩
  | n + 1 => by
    obtain ⟨xs, h1, h2, h3⟩ := path_ex hG hf hx hno n
    have hl : lF 0 xs n ∈ xs := by rw [lF_get' (by omega)]; exact List.getElem_mem _
    obtain ⟨a1, a2⟩ := h2 _ hl
    have hr := List.find?_eq_none.1 hf _ a1
    have : ∃ y, y ∈ sget L (lF 0 xs n) ∧ ¬ y ∈ out := Classical.byContradiction fun hh => hr (rdyB_spec.2 ⟨a2, fun y hy => Classical.byContradiction fun hyo => hh ⟨y, hy, hyo⟩⟩)
    obtain ⟨y, hy, hyo⟩ := this
    refine ⟨xs ++ [y], by rw [List.length_append, h1]; rfl, fun z hz => ?_, fun i hi => ?_⟩
    · rcases List.mem_append.1 hz with hz | hz
      · exact h2 z hz
      · rw [List.mem_singleton.1 hz]; exact ⟨(hG.cl _ y hy).2, hyo⟩
    · rw [List.length_append] at hi
      have hi : i + 1 < xs.length + 1 := hi
      by_cases e : i = n
      · subst e
        have e1 : lF 0 (xs ++ [y]) (i + 1) = y := by rw [← h1]; exact lF_at
        rw [e1, lF_lt (by omega)]; exact hy
      · rw [lF_lt (by omega), lF_lt (by omega)]
        exact h3 i (by omega)
theorem path_wlk {L : List (Int × List Int)} {xs : List Int} (h : ∀ i, i + 1 < xs.length → lF 0 xs (i + 1) ∈ sget L (lF 0 xs i)) : ∀ (n i : Nat), i + n < xs.length → Wlk L (lF 0 xs (i + n)) n (lF 0 xs i)
  | 0, i, hi => rfl
  | n + 1, i, hi => by
    refine ⟨_, h i (by omega), ?_⟩
    have := path_wlk h n (i + 1) (by omega)
    rwa [show i + 1 + n = i + (n + 1) by omega] at this
theorem nodup_or (xs : List Int) : xs.Nodup ∨ ∃ i j, i < j ∧ j < xs.length ∧ lF 0 xs i = lF 0 xs j := by
  by_cases h : ∃ i j, i < j ∧ j < xs.length ∧ lF 0 xs i = lF 0 xs j
  · exact .inr h
  · refine .inl ?_
    rw [List.nodup_iff_pairwise_ne, List.pairwise_iff_getElem]
    intro i j hi hj hij e
    exact h ⟨i, j, hij, hj, by rw [lF_get' hi, lF_get' hj]; exact e⟩
theorem ord_cyc {N : List Int} {L : List (Int × List Int)} (hG : GrOk N L) (hN : N.Nodup) (h0 : (ordF N L N.length []).2 ≠ 0) : ∃ x n, x ∈ N ∧ IsD L x x (n + 1) := by
  obtain ⟨out, h1, h2, h3⟩ := ordF_stuck N.length [] (fun q hq => absurd hq (Nat.not_lt_zero q)) (by simp) h0
  have hex : ∃ x, x ∈ N ∧ ¬ x ∈ out := Classical.byContradiction fun hn => by
    have := nd_len hN (B := out) fun x hx => Classical.byContradiction fun hno => hn ⟨x, hx, hno⟩
    omega
  obtain ⟨x, hx, hno⟩ := hex
  obtain ⟨xs, p1, p2, p3⟩ := path_ex hG h3 hx hno N.length
  rcases nodup_or xs with hnd | ⟨i, j, hij, hj, e⟩
  · have := nd_len hnd fun y hy => (p2 y hy).1
    omega
  · have hw := path_wlk p3 (j - i) i (by omega)
    rw [show i + (j - i) = j by omega, ← e] at hw
    obtain ⟨d, _, hd⟩ := IsD.ex (by omega) hw
    have hd1 := hd.1
    refine ⟨lF 0 xs i, d - 1, (p2 _ (by rw [lF_get' (by omega)]; exact List.getElem_mem _)).1, ?_⟩
    rw [show d - 1 + 1 = d by omega]; exact hd
/-! ### of agreements -/
theorem needS_all {l : List Df} {day : Int} {x : Int} (hg : (nodS l day).all (fun x => decide ((needS l (actL l day) x.toNat).2 = 0)) = true) (hx : x ∈ nodS l day) : needS l (actL l day) x.toNat = (needL l (actL l day) (refsE (lF dD l x.toNat).body), 0) := by
  have h1 := of_decide_eq_true (List.all_eq_true.1 hg x hx)
  cases hx : (refsE (lF dD l x.toNat).body).all (fun e => (meanI l (actL l day) e).isSome) with
  | true => exact needS_ok hx
  | false => rw [needS_no hx] at h1; exact absurd h1 (by decide)
theorem gErr_all {nm : ByteArray} {l : List Df} {day : Int} (hg : gErr nm l day = 0) : (nodS l day).all (fun x => decide ((needS l (actL l day) x.toNat).2 = 0)) = true := by
  have hck := gErr_chk' hg
  unfold gErr at hg
  rw [if_neg (fun hh => hh hck)] at hg
  by_cases hx : (nodL l (actL l day)).all (fun x => decide ((needS l (actL l day) x.toNat).2 = 0)) = true
  · exact hx
  · rw [if_neg hx] at hg; exact absurd hg (by decide)
theorem gr_ok {nm : ByteArray} {l : List Df} {day : Int} (hg : gErr nm l day = 0) : GrOk (nodS l day) (mapS l day) := by
  have hall := gErr_all hg
  have hin := actL_in (l := l) (day := day)
  have hL : ∀ x y, y ∈ sget (mapS l day) x → x ∈ nodS l day ∧ y ∈ needL l (actL l day) (refsE (lF dD l x.toNat).body) := fun x y hy => by
    obtain ⟨h1, h2⟩ := sget_map hy
    have h2 : y ∈ (needS l (actL l day) x.toNat).1 := h2
    rw [needS_all hall h1] at h2
    exact ⟨h1, h2⟩
  refine ⟨(actN_asc l day l.length).filter _, fun x y hy => ?_, fun x => ?_, fun x hx => (hin x (List.mem_filter.1 hx).1).1⟩
  · obtain ⟨h1, h2⟩ := hL x y hy
    refine ⟨h1, ?_⟩
    obtain ⟨h3, h4⟩ := List.mem_filter.1 h2
    rw [Bool.and_eq_true] at h4
    exact List.mem_filter.2 ⟨h3, h4.1⟩
  · by_cases hx : x ∈ nodS l day
    · have : sget (mapS l day) x = needL l (actL l day) (refsE (lF dD l x.toNat).body) := by
        show sget (mapL l (actL l day) (nodS l day)) x = _
        rw [sget_mapL hx, needS_all hall hx]
      rw [this]
      exact (actN_asc l day l.length).filter _
    · have : sget (mapS l day) x = [] := by
        cases hs : sget (mapS l day) x with
        | nil => rfl
        | cons y ys => exact absurd (hL x y (by rw [hs]; exact List.mem_cons_self ..)).1 hx
      rw [this]; exact List.Pairwise.nil
theorem wof_ok {nm : ByteArray} {l : List Df} {day : Int} (hg : gErr nm l day = 0) : ∀ a, a < (nodS l day).length → Wof l (actL l day) (nodS l day) a = sget (mapS l day) (lF 0 (nodS l day) a) := fun a ha => by
  have hm : lF 0 (nodS l day) a ∈ nodS l day := by rw [lF_get' ha]; exact List.getElem_mem ha
  show needL l (actL l day) (refsE (lF dD l (lF 0 (nodS l day) a).toNat).body) = sget (mapL l (actL l day) (nodS l day)) (lF 0 (nodS l day) a)
  rw [sget_mapL hm, needS_all (gErr_all hg) hm]
theorem cyc_eq (nm : ByteArray) (l : List Df) (day : Int) : CycS nm l day = Cyc21S nm l day ∧ (CycS nm l day).length ≤ l.length := by
  unfold CycS Cyc21S
  by_cases hg : gErr nm l day = 0
  · have hG := gr_ok hg
    have hW := wof_ok hg
    have hO : OrdS nm l day = ordF (nodS l day) (mapS l day) (nodS l day).length [] := by unfold OrdS; rw [if_neg (fun hh => hh hg)]
    rw [if_neg (fun hh => hh hg), hO]
    have hb := bst_fst hG hW (nodS l day).length (Nat.le_refl _)
    rw [List.take_length] at hb
    have hNl := nodS_len l day
    rcases ord_err (N := nodS l day) (L := mapS l day) (nodS l day).length [] with h0 | h11
    · rw [if_neg (by rw [h0]; decide)]
      rcases hb with ⟨e1, _⟩ | ⟨k, n, hk, hD, _⟩
      · rw [e1]; exact ⟨rfl, Nat.zero_le _⟩
      · exact absurd hD (ord_nocyc hG h0 _ _)
    · rw [if_pos h11]
      refine ⟨bst_cyc21 hG hW, ?_⟩
      rcases hb with ⟨e1, _⟩ | ⟨k, n, hk, hD, _, e2, _⟩
      · rw [e1]; exact Nat.zero_le _
      · have hmk : lF 0 (nodS l day) k ∈ nodS l day := by rw [lF_get' hk]; exact List.getElem_mem _
        rw [e2, cycS_yes hG hmk hD, List.length_cons, chn_len]
        have := isD_le hG hmk hD
        omega
  · rw [if_pos hg]
    have hO : OrdS nm l day = ([], gErr nm l day) := by unfold OrdS; rw [if_pos hg]
    rw [if_neg (fun h11 => hg (ord_chk (.inl h11)))]
    exact ⟨rfl, Nat.zero_le _⟩
end Go.Proofs.YtcefhgomkehokaaGreat
