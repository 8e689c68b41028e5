/- payrolllaw22: env. -/
import Derived.Test.YtcghpepighboaaaDoorVg2
import Derived.Test.YtcghpepighboaaaDoorNm20
import Derived.Test.YtcghpepighboaaaDoorX22
set_option linter.unusedSimpArgs false
set_option linter.unusedVariables false
set_option maxRecDepth 100000
namespace Go.Proofs.YtcghpepighboaaaDoor
structure EnvOk (N : List In) (S : List Df) (P : List Pa) : Prop where
  pos : 0 < N.length
  len : N.length ≤ 100
  slen : S.length ≤ 100
  bn : ∀ x, x ∈ N → -9223372036854775808 ≤ x.n ∧ x.n ≤ 9223372036854775807
  bs : ∀ d, d ∈ S → BdS d
  s : ∃ d, d ∈ S ∧ d.kind = 2 ∧ d.nm.toList = n_s.toList
  p : ∃ (k0 k1 : Nat) (f0 f1 : Nat → Int × Int), P = [⟨n_gross, k0, f0⟩, ⟨n_time, k1, f1⟩] ∧ BdP ⟨n_gross, k0, f0⟩ ∧ BdP ⟨n_time, k1, f1⟩
theorem EnvOk.bd {N : List In} {S : List Df} {P : List Pa} (h : EnvOk N S P) : BdV N S P := by
  obtain ⟨k0, k1, f0, f1, rfl, b0, b1⟩ := h.p
  refine ⟨by have := h.len; omega, by have := h.slen; omega, by simp, h.bn, h.bs, fun p hp => ?_⟩
  simp only [List.mem_cons, List.not_mem_nil, or_false] at hp
  rcases hp with rfl | rfl
  · exact b0
  · exact b1
theorem AGood.sc {h : Nat} {l : List Df} (hA : AGood h l) : (l.filter isSc).length ≤ 100 ∧ (∀ d, d ∈ l.filter isSc → BdS d) ∧ ∃ d, d ∈ l.filter isSc ∧ d.kind = 2 ∧ d.nm.toList = n_s.toList := by
  refine ⟨?_, fun d hd => ?_, ?_⟩
  · have := List.length_filter_le isSc l; have := hA.len; omega
  · have := (hA.all d (List.mem_filter.1 hd).1).bd
    exact ⟨by have := this.ne; omega, this.ef⟩
  · obtain ⟨d, hd, he⟩ := List.mem_map.1 (hA.has n_s mm)
    have ht := (hA.all d hd).tab
    rw [he] at ht
    have := tab_one _ ht (n_s, 2, t0) mm rfl
    simp only [Prod.mk.injEq] at this
    exact ⟨d, List.mem_filter.2 ⟨hd, by simp [isSc, this.1]⟩, this.1, by rw [he]⟩
theorem decL_bd {x : Int × Int} (h : x ∈ decL) : -9223372036854775808 ≤ x.1 ∧ x.1 ≤ 9223372036854775807 := by
  have key : ∀ x ∈ decL, -9223372036854775808 ≤ x.1 ∧ x.1 ≤ 9223372036854775807 := by decide +kernel
  exact key x h
theorem appf_l {α : Type} {c : α → List PV} {sz m : Nat} {d : α} {l : List α} {y : α} {L : List PV} (hl : l.length = m) (hL : L = c y) (a : Nat) (ha : a < m + 1) (b : Nat) : appF m (fun x => tF c (lF d l) (0 + x)) (fun x b => nthP L ((0 + x) * sz + b)) a b = nthP (c (lF d (l ++ [y]) a)) b := by
  subst hL hl
  by_cases e : a < l.length
  · rw [appF_lt _ _ e, Nat.zero_add, lF_lt e]; rfl
  · obtain rfl : a = l.length := by omega
    rw [appF_ge _ _ (Nat.le_refl _), Nat.sub_self, Nat.zero_add, Nat.zero_mul, Nat.zero_add, lF_at]
abbrev nms4 : List ByteArray := [n_r1, n_r2, n_r4, n_a]
theorem bn_snoc {N : List In} {x : In} (h : ∀ y, y ∈ N → -9223372036854775808 ≤ y.n ∧ y.n ≤ 9223372036854775807) (hx : -9223372036854775808 ≤ x.n ∧ x.n ≤ 9223372036854775807) : ∀ y, y ∈ N ++ [x] → -9223372036854775808 ≤ y.n ∧ y.n ≤ 9223372036854775807 := fun y hy => by
  rcases List.mem_append.1 hy with hy | hy
  · exact h y hy
  · obtain rfl : y = x := by simpa using hy
    exact hx
theorem argAd {mem : List Row} {L : List Nat} {l k : Nat} {D : List Df} (hr : rowAt mem l = some (oRow cD 21 (k + 1) (lF dD D))) (hk : D.length = k + 1) (hL : l ∈ L) : ArgOk mem L (.agg 2 (nthP [vs n_metal, .lsl l 0 (k + 1)])) (vA n_metal D) := argAgr (by have := arg_o (s := .own) (L := L) cD_cl hr trivial hL; rw [← hk] at this ⊢; exact this)
set_option maxHeartbeats 8000000 in
theorem env_t : TapC G.P 21 [] (fun r => ∃ N S P, r = .tup 3 (nthP [vIns N, vDs S, vPas P]) ∧ EnvOk N S P) := by
  intro n g at_ hn h1 h2
  refine ptr_of (G := G.toPg) (fn := Tryd.f21) Tryd.func21 rfl rfl rfl ?_; intro Γ hk
  repeat' (first | refine yo ?_ ?_ | refine yw ?_ ?_ | refine yk ?_ ?_ | exact trivial | with_reducible refine wA ?_ ?_ | refine ys ?_ ?_ | refine xs_done ?_ | refine yl ?_ ?_ | refine w8 ?_ | refine w9 ?_ | refine w1 ?_ | refine w2 ?_ | refine w3 ?_ | refine w4 ?_ | refine w5 ?_ | refine w6 ?_ | refine w7 ?_ | refine yo0 ?_ ?_ | refine yw0 ?_ ?_ | exact qq | fail)
  refine pop_rowsd [0] rfl rfl rfl rfl rfl rfl (by exact .cons rfl trivial (RowEq.cl (tape_cl _ _ _)) .nil) (agreement4_r 1 (by omega) false n g at_ hn h1 h2) (by exact ⟨PEq.refl _, PEq.refl _, PEq.refl _, trivial⟩) ?_
  rintro r rows ⟨at_, k, l, b1, b2, hlk, hA, rfl, rfl⟩
  refine ⟨[tapeRow n g at_, rA (k + 1) 2, oRow cD 21 (k + 1) (lF dD l)], _, .agg 2 (nthP [vs n_metal, .lsl 2 0 (k + 1)]), ⟨RowEq.cl (tape_cl _ _ _), rA_eq rfl, RowEq.cl (o_cl cD_cl _ _ _), trivial⟩, rfl, peqA rfl, ?_⟩
  repeat' (first | refine yo ?_ ?_ | refine yw ?_ ?_ | refine yk ?_ ?_ | exact trivial | with_reducible refine wA ?_ ?_ | refine ys ?_ ?_ | refine xs_done ?_ | refine yl ?_ ?_ | refine w8 ?_ | refine w9 ?_ | refine w1 ?_ | refine w2 ?_ | refine w3 ?_ | refine w4 ?_ | refine w5 ?_ | refine w6 ?_ | refine w7 ?_ | refine yo0 ?_ ?_ | refine yw0 ?_ ?_ | exact qq | fail)
  obtain ⟨hsl, hsb, hss⟩ := hA.sc
  refine pop_callc [2] rfl rfl rfl rfl rfl rfl (fun l' hl => by simp at hl; omega) (names20_c n_metal l (by have := hA.len; omega)) ⟨argAd rfl hlk (List.Mem.head _), trivial⟩ ?_
  rintro _ rfl
  generalize l.filter isSc = S at *
  repeat' (first | refine yo ?_ ?_ | refine yw ?_ ?_ | refine yk ?_ ?_ | exact trivial | with_reducible refine wA ?_ ?_ | refine ys ?_ ?_ | refine xs_done ?_ | refine yl ?_ ?_ | refine w8 ?_ | refine w9 ?_ | refine w1 ?_ | refine w2 ?_ | refine w3 ?_ | refine w4 ?_ | refine w5 ?_ | refine w6 ?_ | refine w7 ?_ | refine yo0 ?_ ?_ | refine yw0 ?_ ?_ | exact qq | fail)
  refine pop_rowsd [0] rfl rfl rfl rfl rfl rfl (by exact .cons rfl trivial (RowEq.cl (tape_cl _ _ _)) .nil) (inputs_r n g at_ hn b1 b2) (by exact ⟨PEq.refl _, trivial⟩) ?_
  rintro r rows ⟨at_, k, N, b1, b2, hN, hI, rfl, rfl⟩
  refine ⟨[tapeRow n g at_, oRow cIn 3 (k + 1) (lF dIn N)], _, .lsl 3 0 (k + 1), ⟨RowEq.cl (tape_cl _ _ _), RowEq.cl (o_cl cIn_cl _ _ _), trivial⟩, rfl, PEq.refl _, ?_⟩
  have hNl := hI.len
  have hNb := hI.bd
  clear hI
  repeat' (first | refine yo ?_ ?_ | refine yw ?_ ?_ | refine yk ?_ ?_ | exact trivial | with_reducible refine wA ?_ ?_ | refine ys ?_ ?_ | refine xs_done ?_ | refine yl ?_ ?_ | refine w8 ?_ | refine w9 ?_ | refine w1 ?_ | refine w2 ?_ | refine w3 ?_ | refine w4 ?_ | refine w5 ?_ | refine w6 ?_ | refine w7 ?_ | refine yo0 ?_ ?_ | refine yw0 ?_ ?_ | exact qq | fail)
  refine pcan (st' := ⟨[(0, .ptr 0 0 0), (6, vDs S), (8, .lsl 1 0 (k + 1)), (20, .lsl 2 0 4), (21, vi ((4 : Nat) : Int)), (22, vi ((0 : Nat) : Int))], [tapeRow n g at_, oRow cIn 3 (k + 1) (lF dIn N), oRow cSt 1 4 (lF ⟨#[]⟩ nms4)]⟩) (can_rowsv [0, 3, 4] (k0_sel hk rfl) rfl (.cons rfl (RowEq.cl (tape_cl _ _ _)) (.cons rfl (RowEq.cl (o_cl cIn_cl _ _ _)) (.cons rfl (o_eq cSt_cl (Nat.le_refl _) (fun a ha b hb => by
    have hb : b < 1 := hb
    obtain rfl : b = 0 := by omega
    rcases (by omega : a = 0 ∨ a = 1 ∨ a = 2 ∨ a = 3) with rfl | rfl | rfl | rfl <;> rfl)) .nil))) tmq) ?_
  refine ploop (fun q st => ∃ (at' : Int) (i k : Nat) (N : List In), 0 ≤ at' ∧ at' ≤ n ∧ i ≤ 4 ∧ q = 4 - i ∧ N.length = k + 1 ∧ k + 1 ≤ 10 + i ∧ (∀ x, x ∈ N → -9223372036854775808 ≤ x.n ∧ x.n ≤ 9223372036854775807) ∧ st = ⟨[(0, .ptr 0 0 0), (6, vDs S), (8, .lsl 1 0 (k + 1)), (20, .lsl 2 0 4), (21, vi ((4 : Nat) : Int)), (22, vi i)], [tapeRow n g at', oRow cIn 3 (k + 1) (lF dIn N), oRow cSt 1 4 (lF ⟨#[]⟩ nms4)]⟩) 4 ⟨at_, 0, k, N, b1, b2, by omega, rfl, hN, by omega, hNb, rfl⟩ ?_
  clear hN hNl hNb b1 b2
  rintro _ _ ⟨at', i, k, N, b1, b2, hi, rfl, hN, hNl, hNb, rfl⟩
  have hwi : IntKind.i64.wrap ((i : Int) + 1) = ((i + 1 : Nat) : Int) := w64 (by omega) (by omega)
  repeat' (first | refine yo ?_ ?_ | refine yw ?_ ?_ | refine yk ?_ ?_ | exact trivial | with_reducible refine wA ?_ ?_ | refine ys ?_ ?_ | refine xs_done ?_ | refine yl ?_ ?_ | refine w8 ?_ | refine w9 ?_ | refine w1 ?_ | refine w2 ?_ | refine w3 ?_ | refine w4 ?_ | refine w5 ?_ | refine w6 ?_ | refine w7 ?_ | refine yo0 ?_ ?_ | refine yw0 ?_ ?_ | exact qq | fail)
  refine pcond rfl ?_ ?_ <;> intro hc <;> simp at hc
  · repeat' (first | refine yo ?_ ?_ | refine yw ?_ ?_ | refine yk ?_ ?_ | exact trivial | with_reducible refine wA ?_ ?_ | refine ys ?_ ?_ | refine xs_done ?_ | refine yl ?_ ?_ | (refine tn1 hn ?_; rintro at_ b1 b2 x hx1 hx2) | refine w8 ?_ | refine w9 ?_ | refine w1 ?_ | refine w2 ?_ | refine w3 ?_ | refine w4 ?_ | refine w5 ?_ | refine w6 ?_ | refine w7 ?_ | refine yo0 ?_ ?_ | refine yw0 ?_ ?_ | exact qq | fail)
    refine pcond rfl ?_ ?_ <;> intro hc2
    · repeat' (first | refine yo ?_ ?_ | refine yw ?_ ?_ | refine yk ?_ ?_ | exact trivial | with_reducible refine wA ?_ ?_ | refine ys ?_ ?_ | refine xs_done ?_ | refine yl ?_ ?_ | exact ⟨Nat.le_refl _, (by rw [hk]; exact Nat.le_of_ble_eq_true rfl), Nat.le_of_eq (Nat.zero_add _), (show (_ : Nat) * 32 ≤ 140737488355328 from by omega), (show (_ : Nat) ≤ 9223372036854775807 from by omega)⟩ | (refine t1 decimal_t hn ?_; rintro at_ _ b1 b2 ⟨⟨a, b⟩, rfl, hx⟩) | (refine t2 decimal_t hn ?_; rintro at_ _ b1 b2 ⟨⟨a, b⟩, rfl, hx⟩) | (refine t3 decimal_t hn ?_; rintro at_ _ b1 b2 ⟨⟨a, b⟩, rfl, hx⟩) | refine w8 ?_ | refine w9 ?_ | refine w1 ?_ | refine w2 ?_ | refine w3 ?_ | refine w4 ?_ | refine w5 ?_ | refine w6 ?_ | refine w7 ?_ | refine yo0 ?_ ?_ | refine yw0 ?_ ?_ | exact qq | fail)
      refine xdone ?_
      rw [hwi]
      exact kloop_next (st' := ⟨[(0, .ptr 0 0 0), (6, vDs S), (8, .lsl 1 0 (k + 1 + 1)), (20, .lsl 2 0 4), (21, vi ((4 : Nat) : Int)), (22, vi ((i + 1 : Nat) : Int))], [tapeRow n g _, oRow cIn 3 (k + 1 + 1) (lF dIn (N ++ [⟨lF ⟨#[]⟩ nms4 (0 + (i : Int).toNat), a, b⟩])), oRow cSt 1 4 (lF ⟨#[]⟩ nms4)]⟩) (4 - (i + 1)) (can_rowsv [0, 4, 2] (k0_sel hk rfl) rfl (.cons rfl (RowEq.cl (tape_cl _ _ _)) (.cons rfl (app_l cIn_cl hN rfl rfl) (.cons rfl (RowEq.cl (o_cl cSt_cl _ _ _)) .nil))) tmq) (by omega) ⟨_, i + 1, k + 1, _, b1, b2, by omega, rfl, by rw [List.length_append, hN]; rfl, by omega, bn_snoc hNb (decL_bd hx), rfl⟩
    · repeat' (first | refine yo ?_ ?_ | refine yw ?_ ?_ | refine yk ?_ ?_ | exact trivial | with_reducible refine wA ?_ ?_ | refine ys ?_ ?_ | refine xs_done ?_ | refine yl ?_ ?_ | refine w8 ?_ | refine w9 ?_ | refine w1 ?_ | refine w2 ?_ | refine w3 ?_ | refine w4 ?_ | refine w5 ?_ | refine w6 ?_ | refine w7 ?_ | refine yo0 ?_ ?_ | refine yw0 ?_ ?_ | exact qq | fail)
      refine xdone ?_
      rw [hwi]
      exact kloop_next (st' := ⟨[(0, .ptr 0 0 0), (6, vDs S), (8, .lsl 1 0 (k + 1)), (20, .lsl 2 0 4), (21, vi ((4 : Nat) : Int)), (22, vi ((i + 1 : Nat) : Int))], [tapeRow n g _, oRow cIn 3 (k + 1) (lF dIn N), oRow cSt 1 4 (lF ⟨#[]⟩ nms4)]⟩) (4 - (i + 1)) (can_rowsv [0, 1, 2] (k0_sel hk rfl) rfl (.cons rfl (RowEq.cl (tape_cl _ _ _)) (.cons rfl (RowEq.cl (o_cl cIn_cl _ _ _)) (.cons rfl (RowEq.cl (o_cl cSt_cl _ _ _)) .nil))) tmq) (by omega) ⟨_, i + 1, k, N, b1, b2, by omega, rfl, hN, by omega, hNb, rfl⟩
  · obtain rfl : i = 4 := by omega
    repeat' (first | refine yo ?_ ?_ | refine yw ?_ ?_ | refine yk ?_ ?_ | exact trivial | with_reducible refine wA ?_ ?_ | refine ys ?_ ?_ | refine xs_done ?_ | refine yl ?_ ?_ | (refine tn1 hn ?_; rintro at_ b1 b2 x hx1 hx2) | exact ⟨Nat.le_refl _, (by rw [hk]; exact Nat.le_of_ble_eq_true rfl), Nat.le_of_eq (Nat.zero_add _), (show (_ : Nat) * 32 ≤ 140737488355328 from by omega), (show (_ : Nat) ≤ 9223372036854775807 from by omega)⟩ | (refine t1 past_t hn ?_; rintro at_ _ b1 b2 ⟨p0, p1, f0, f1, rfl, hp0, hp1⟩) | (refine t2 past_t hn ?_; rintro at_ _ b1 b2 ⟨p0, p1, f0, f1, rfl, hp0, hp1⟩) | (refine t3 past_t hn ?_; rintro at_ _ b1 b2 ⟨p0, p1, f0, f1, rfl, hp0, hp1⟩) | refine w8 ?_ | refine w9 ?_ | refine w1 ?_ | refine w2 ?_ | refine w3 ?_ | refine w4 ?_ | refine w5 ?_ | refine w6 ?_ | refine w7 ?_ | refine yo0 ?_ ?_ | refine yw0 ?_ ?_ | exact qq | fail)
    refine xdone ?_
    have hlen : (N ++ [(⟨n_r3, x, 1⟩ : In)]).length = k + 1 + 1 := by rw [List.length_append, hN]; rfl
    exact ktapL [4] rfl b1 b2 (by intro l hl; simp at hl; omega) rfl ⟨trivial, trivial, trivial, trivial⟩ (qs := [vIns (N ++ [(⟨n_r3, x, 1⟩ : In)]), vDs S, vPas [⟨n_gross, p0, f0⟩, ⟨n_time, p1, f1⟩]]) ⟨argIn rfl hlen (Nat.le_refl _) (List.Mem.head _) (fun a ha b hb => appf_l (c := cIn) (sz := 3) (d := dIn) (y := ⟨n_r3, x, 1⟩) hN rfl a ha b), argCl (clB_spec _ rfl), argCl (clB_spec _ rfl), trivial⟩ ⟨_, _, _, rfl, ⟨by omega, by omega, hsl, bn_snoc hNb (by dsimp only; omega), hsb, hss, ⟨_, _, _, _, rfl, hp0, hp1⟩⟩⟩
end Go.Proofs.YtcghpepighboaaaDoor
