/- paygen: orders. -/
import Derived.Test.YtipdkompinnghaaGen31
set_option linter.unusedSimpArgs false
set_option linter.unusedVariables false
set_option maxRecDepth 100000
namespace Go.Proofs.Ytipdkompinnghaa
def namesO : List ByteArray := [⟨#[99, 104, 105, 108, 100]⟩, ⟨#[99, 105, 116, 121]⟩, ⟨#[99, 111, 117, 114, 116]⟩, ⟨#[116, 97, 120, 49]⟩, ⟨#[116, 97, 120, 50]⟩]
def dB : ByteArray := ⟨#[]⟩
abbrev cS (x : ByteArray) : List PV := [vs x]
theorem cS_cl : CellsCl cS := fun _ => ⟨trivial, trivial⟩
/-- an order that a deck yields -/
structure OGd (o : Ord) : Prop where
  id : o.id ∈ namesO
  r0 : 0 ≤ o.rk
  r1 : o.rk ≤ 2
  dy : o.dy = 10 ∨ o.dy = 20
  a0 : 0 ≤ o.am
  a1 : o.am ≤ 599999
  t0 : 0 ≤ o.tt
  t1 : o.tt ≤ 599999
structure OLs (j : Nat) (l : List Ord) : Prop where
  ids : (l.map Ord.id).Sublist (namesO.take j)
  gd : ∀ o, o ∈ l → OGd o
theorem names_asc : namesO.Pairwise (fun a b => ltS a b = true) := by decide +kernel
theorem names_ok : ∀ s, s ∈ namesO → nameS s = true ∧ s.size ≤ 60 := by decide +kernel
theorem OLs.len {j : Nat} {l : List Ord} (h : OLs j l) : l.length ≤ 5 := by
  have := h.ids.length_le
  simp [namesO] at this
  omega
theorem OLs.ords {j : Nat} {l : List Ord} (h : OLs j l) : ordsB l.length (lF dO l) = true := by
  have hl := h.len
  have hp : (l.map Ord.id).Pairwise (fun a b => ltS a b = true) := (names_asc.sublist (List.take_sublist j _)).sublist h.ids
  rw [List.pairwise_map] at hp
  have hget : ∀ i (hi : i < l.length), lF dO l i = l[i] := fun i hi => by unfold lF; rw [List.getD_eq_getElem?_getD, List.getElem?_eq_getElem hi]; rfl
  refine ordsB_iff.2 ⟨by omega, fun i hi => ?_⟩
  have hg := h.gd l[i] (List.getElem_mem hi)
  have hn := (names_ok _ hg.id).1
  unfold ordB
  rw [hget i hi, hn]
  have h1 : (decide (i = 0) || ltS (lF dO l (i - 1)).id l[i].id) = true := by
    by_cases h0 : i = 0
    · simp [h0]
    · rw [hget (i - 1) (by omega)]
      have := List.pairwise_iff_getElem.1 hp (i - 1) i (by omega) hi (by omega)
      simp [this]
  rw [h1]
  have := hg.r0; have := hg.r1; have := hg.dy; have := hg.a0; have := hg.a1; have := hg.t0; have := hg.t1
  simp [amB]
  omega
def rN5 : Row := oRow cS 1 5 (lF dB namesO)
theorem n5_eq {τ : Nat → Option Nat} : RowEq (Row.ren τ ⟨.own, false, 5, 1, fun a b => nthP [vs ⟨#[99, 104, 105, 108, 100]⟩, vs ⟨#[99, 105, 116, 121]⟩, vs ⟨#[99, 111, 117, 114, 116]⟩, vs ⟨#[116, 97, 120, 49]⟩, vs ⟨#[116, 97, 120, 50]⟩] (a * 1 + b)⟩) rN5 := by
  refine o_eq cS_cl (Nat.le_refl _) fun a ha b hb => ?_
  obtain rfl : b = 0 := by omega
  rcases (by omega : a = 0 ∨ a = 1 ∨ a = 2 ∨ a = 3 ∨ a = 4) with rfl | rfl | rfl | rfl | rfl <;> rfl
theorem OLs.keep {j : Nat} {l : List Ord} (h : OLs j l) : OLs (j + 1) l := ⟨h.ids.trans (List.take_sublist_take_left (by omega)), h.gd⟩
theorem OLs.snoc {j : Nat} {l : List Ord} (h : OLs j l) (hj : j < 5) {o : Ord} (hid : o.id = lF dB namesO j) (ho : OGd o) : OLs (j + 1) (l ++ [o]) := by
  refine ⟨?_, fun x hx => ?_⟩
  · have e : namesO.take (j + 1) = namesO.take j ++ [lF dB namesO j] := by
      rcases (by omega : j = 0 ∨ j = 1 ∨ j = 2 ∨ j = 3 ∨ j = 4) with rfl | rfl | rfl | rfl | rfl <;> rfl
    rw [e, List.map_append, List.map_cons, List.map_nil, hid]
    exact h.ids.append (List.Sublist.refl _)
  · rcases List.mem_append.1 hx with hx | hx
    · exact h.gd x hx
    · have : x = o := by simpa using hx
      subst this; exact ho
theorem names_mem {j : Nat} (hj : j < 5) : lF dB namesO j ∈ namesO := by
  rcases (by omega : j = 0 ∨ j = 1 ∨ j = 2 ∨ j = 3 ∨ j = 4) with rfl | rfl | rfl | rfl | rfl
  · exact List.Mem.head _
  · exact .tail _ (.head _)
  · exact .tail _ (.tail _ (.head _))
  · exact .tail _ (.tail _ (.tail _ (.head _)))
  · exact .tail _ (.tail _ (.tail _ (.tail _ (.head _))))
set_option maxHeartbeats 4000000 in
theorem dorders_t : DekC G.P 16 50 [] (fun r => ∃ l : List Ord, r = vOs l.length (lF dO l) ∧ OLs 5 l) := by
  intro n g at_ hn h1 h2
  refine ptr_of (G := G.toPg) (fn := Try.f16) Try.func16 rfl rfl rfl ?_; intro Γ hk
  repeat' (first | refine xo 4000 rfl ?_ ?_ | refine xw 4000 rfl ?_ ?_ | refine xk 4000 rfl ?_ ?_ | exact trivial | ((with_reducible (show AllP (_ :: _))); refine And.intro ?_ ?_) | refine xs rfl ?_ ?_ | refine xs_done ?_ | refine pcond_t rfl ?_ | refine pcond_f rfl ?_ | refine kround_exit ?_ | refine kround_ret ?_ | refine kround_next ?_ | refine kloop_ret ?_ | refine kloop_exit ?_ | refine kcut_ret ?_ | refine kcut_exit ?_ | refine xo0 4000 rfl ?_ ?_ | refine xw0 4000 rfl ?_ ?_ | exact qq | fail)
  refine pcan (can_virt (vRow cO 5 0 (lF dO [])) rfl) ?_
  refine pcan (st' := ⟨[(0, .ptr 0 0 0), (3, slP 0 2), (6, .lsl 1 0 5), (7, vi 5), (8, vi 0)], [tapeRow n g at_, rN5, vRow cO 5 0 (lF dO [])]⟩) (can_rowsv [0, 1, 2] (k0_sel hk rfl) rfl (.cons rfl (RowEq.cl (tape_cl _ _ _)) (.cons rfl n5_eq (.cons rfl (RowEq.cl (v_cl cO_cl _ _ _)) .nil))) (by (repeat refine ⟨PEq.refl _, ?_⟩); exact trivial)) ?_
  refine ploop (fun q st => ∃ (at' : Int) (j k : Nat) (l : List Ord), 0 ≤ at' ∧ at' ≤ at_ + 10 * j ∧ j ≤ 5 ∧ l.length = k ∧ OLs j l ∧ q = 5 - j ∧ st = ⟨[(0, .ptr 0 0 0), (3, slP k 2), (6, .lsl 1 0 5), (7, vi 5), (8, vi j)], [tapeRow n g at', rN5, vRow cO 5 k (lF dO l)]⟩) 5 ⟨at_, 0, 0, [], h1, by omega, by omega, rfl, ⟨by simp, by simp⟩, rfl, rfl⟩ ?_
  rintro _ _ ⟨at', j, k, l, b1, b2, hj, hlk, hl, rfl, rfl⟩
  have hk5 := hl.len
  repeat' (first | refine xo 4000 rfl ?_ ?_ | refine xw 4000 rfl ?_ ?_ | refine xk 4000 rfl ?_ ?_ | exact trivial | ((with_reducible (show AllP (_ :: _))); refine And.intro ?_ ?_) | refine xs rfl ?_ ?_ | refine xs_done ?_ | refine pcond_t rfl ?_ | refine pcond_f rfl ?_ | refine kround_exit ?_ | refine kround_ret ?_ | refine kround_next ?_ | refine kloop_ret ?_ | refine kloop_exit ?_ | refine kcut_ret ?_ | refine kcut_exit ?_ | refine xo0 4000 rfl ?_ ?_ | refine xw0 4000 rfl ?_ ?_ | exact qq | fail)
  refine pcond rfl ?_ ?_ <;> intro hc <;> simp at hc
  · have hw : IntKind.i64.wrap ((j : Int) + 1) = ((j + 1 : Nat) : Int) := w64 (by omega) (by omega)
    repeat' (first | refine xo 4000 rfl ?_ ?_ | refine xw 4000 rfl ?_ ?_ | refine xk 4000 rfl ?_ ?_ | exact trivial | ((with_reducible (show AllP (_ :: _))); refine And.intro ?_ ?_) | refine xs rfl ?_ ?_ | refine xs_done ?_ | (refine pop_dek (G := G) rfl rfl rfl rfl rfl rfl rfl rfl (fun _ => rfl) (dnext_t _ (by omega) (by omega)) hn (by omega) (by omega) rfl rfl ?_; rintro at_ _ b1 b2 ⟨x, rfl, hx1, hx2⟩) | refine pcond_t rfl ?_ | refine pcond_f rfl ?_ | refine kround_exit ?_ | refine kround_ret ?_ | refine kround_next ?_ | refine kloop_ret ?_ | refine kloop_exit ?_ | refine kcut_ret ?_ | refine kcut_exit ?_ | refine xo0 4000 rfl ?_ ?_ | refine xw0 4000 rfl ?_ ?_ | exact qq | fail)
    refine pcond rfl ?_ ?_ <;> intro hc2
    · have hlen : ∀ o : Ord, (l ++ [o]).length = k + 1 := fun o => by rw [List.length_append, hlk]; rfl
      rcases k with _ | k
      · repeat' (first | refine xo 4000 rfl ?_ ?_ | refine xw 4000 rfl ?_ ?_ | refine xk 4000 rfl ?_ ?_ | exact trivial | ((with_reducible (show AllP (_ :: _))); refine And.intro ?_ ?_) | refine xs rfl ?_ ?_ | refine xs_done ?_ | (refine pop_dek (G := G) rfl rfl rfl rfl rfl rfl rfl rfl (fun _ => rfl) (dnext_t _ (by omega) (by omega)) hn (by omega) (by omega) rfl rfl ?_; rintro at_ _ b1 b2 ⟨x, rfl, hx1, hx2⟩) | (refine pop_dek (G := G) rfl rfl rfl rfl rfl rfl rfl rfl (fun _ => rfl) dsmall_t hn (by omega) (by omega) rfl rfl ?_; rintro at_ _ b1 b2 ⟨x, rfl, hx1, hx2⟩) | (refine pop_dekl (G := G) rfl rfl rfl rfl rfl rfl rfl rfl rfl rfl rfl (by omega) rfl (fun _ => rfl) rfl (dpick_t _ _ rfl (by decide) (by decide)) hn (by omega) (by omega) ?_; rintro at_ _ b1 b2 ⟨x, rfl, hx⟩; simp only [unL, List.mem_cons, List.not_mem_nil, or_false] at hx) | refine pcond_t rfl ?_ | refine pcond_f rfl ?_ | refine kround_exit ?_ | refine kround_ret ?_ | refine kround_next ?_ | refine kloop_ret ?_ | refine kloop_exit ?_ | refine kcut_ret ?_ | refine kcut_exit ?_ | refine xo0 4000 rfl ?_ ?_ | refine xw0 4000 rfl ?_ ?_ | exact qq | fail)
        rename_i rk _ _ _ _ _ dy hdy _ _ _ sa _ _ _ _ _ am ham _ _ _ st
        refine xdone ?_
        rw [hw, show 0 + (j : Int).toNat = j by omega]
        have ho : OGd ⟨lF dB namesO j, rk, dy, am, x⟩ := ⟨names_mem (by omega), by simp only; omega, by simp only; omega, by simp only; omega, by simp only; omega, by simp only; omega, by simp only; omega, by simp only; omega⟩
        exact kloop_next (st' := ⟨[(0, .ptr 0 0 0), (3, slP (0 + 1) 2), (6, .lsl 1 0 5), (7, vi 5), (8, vi ((j + 1 : Nat) : Int))], [tapeRow n g _, rN5, vRow cO 5 (0 + 1) (lF dO (l ++ [⟨lF dB namesO j, rk, dy, am, x⟩]))]⟩) (5 - (j + 1)) (can_rowsv [0, 1, 7] (k0_sel hk rfl) rfl (.cons rfl (RowEq.cl (tape_cl _ _ _)) (.cons rfl (RowEq.cl (o_cl cS_cl _ _ _)) (.cons rfl (by first | exact app_l cO_cl (by assumption) rfl rfl | exact app_l0 cO_cl (by assumption) rfl) .nil))) (by (repeat refine ⟨PEq.refl _, ?_⟩); exact trivial)) (by omega) ⟨_, j + 1, 0 + 1, _, by omega, by omega, by omega, hlen _, hl.snoc (by omega) rfl ho, rfl, rfl⟩
      · repeat' (first | refine xo 4000 rfl ?_ ?_ | refine xw 4000 rfl ?_ ?_ | refine xk 4000 rfl ?_ ?_ | exact trivial | ((with_reducible (show AllP (_ :: _))); refine And.intro ?_ ?_) | refine xs rfl ?_ ?_ | refine xs_done ?_ | (refine pop_dek (G := G) rfl rfl rfl rfl rfl rfl rfl rfl (fun _ => rfl) (dnext_t _ (by omega) (by omega)) hn (by omega) (by omega) rfl rfl ?_; rintro at_ _ b1 b2 ⟨x, rfl, hx1, hx2⟩) | (refine pop_dek (G := G) rfl rfl rfl rfl rfl rfl rfl rfl (fun _ => rfl) dsmall_t hn (by omega) (by omega) rfl rfl ?_; rintro at_ _ b1 b2 ⟨x, rfl, hx1, hx2⟩) | (refine pop_dekl (G := G) rfl rfl rfl rfl rfl rfl rfl rfl rfl rfl rfl (by omega) rfl (fun _ => rfl) rfl (dpick_t _ _ rfl (by decide) (by decide)) hn (by omega) (by omega) ?_; rintro at_ _ b1 b2 ⟨x, rfl, hx⟩; simp only [unL, List.mem_cons, List.not_mem_nil, or_false] at hx) | refine pcond_t rfl ?_ | refine pcond_f rfl ?_ | refine kround_exit ?_ | refine kround_ret ?_ | refine kround_next ?_ | refine kloop_ret ?_ | refine kloop_exit ?_ | refine kcut_ret ?_ | refine kcut_exit ?_ | refine xo0 4000 rfl ?_ ?_ | refine xw0 4000 rfl ?_ ?_ | exact qq | fail)
        rename_i rk _ _ _ _ _ dy hdy _ _ _ sa _ _ _ _ _ am ham _ _ _ st
        refine xdone ?_
        rw [hw, show 0 + (j : Int).toNat = j by omega]
        have ho : OGd ⟨lF dB namesO j, rk, dy, am, x⟩ := ⟨names_mem (by omega), by simp only; omega, by simp only; omega, by simp only; omega, by simp only; omega, by simp only; omega, by simp only; omega, by simp only; omega⟩
        exact kloop_next (st' := ⟨[(0, .ptr 0 0 0), (3, slP (k + 1 + 1) 2), (6, .lsl 1 0 5), (7, vi 5), (8, vi ((j + 1 : Nat) : Int))], [tapeRow n g _, rN5, vRow cO 5 (k + 1 + 1) (lF dO (l ++ [⟨lF dB namesO j, rk, dy, am, x⟩]))]⟩) (5 - (j + 1)) (can_rowsv [0, 1, 7] (k0_sel hk rfl) rfl (.cons rfl (RowEq.cl (tape_cl _ _ _)) (.cons rfl (RowEq.cl (o_cl cS_cl _ _ _)) (.cons rfl (by first | exact app_l cO_cl (by assumption) rfl rfl | exact app_l0 cO_cl (by assumption) rfl) .nil))) (by (repeat refine ⟨PEq.refl _, ?_⟩); exact trivial)) (by omega) ⟨_, j + 1, k + 1 + 1, _, by omega, by omega, by omega, hlen _, hl.snoc (by omega) rfl ho, rfl, rfl⟩
    · repeat' (first | refine xo 4000 rfl ?_ ?_ | refine xw 4000 rfl ?_ ?_ | refine xk 4000 rfl ?_ ?_ | exact trivial | ((with_reducible (show AllP (_ :: _))); refine And.intro ?_ ?_) | refine xs rfl ?_ ?_ | refine xs_done ?_ | refine pcond_t rfl ?_ | refine pcond_f rfl ?_ | refine kround_exit ?_ | refine kround_ret ?_ | refine kround_next ?_ | refine kloop_ret ?_ | refine kloop_exit ?_ | refine kcut_ret ?_ | refine kcut_exit ?_ | refine xo0 4000 rfl ?_ ?_ | refine xw0 4000 rfl ?_ ?_ | exact qq | fail)
      rw [hw]
      exact kloop_next (st' := ⟨[(0, .ptr 0 0 0), (3, slP k 2), (6, .lsl 1 0 5), (7, vi 5), (8, vi ((j + 1 : Nat) : Int))], [tapeRow n g _, rN5, vRow cO 5 k (lF dO l)]⟩) (5 - (j + 1)) (can_rowsv [0, 1, 2] (k0_sel hk rfl) rfl (.cons rfl (RowEq.cl (tape_cl _ _ _)) (.cons rfl (RowEq.cl (o_cl cS_cl _ _ _)) (.cons rfl (RowEq.cl (v_cl cO_cl _ _ _)) .nil))) (by (repeat (first | refine ⟨PEq.refl _, ?_⟩ | refine ⟨peq_slP rfl, ?_⟩)); exact trivial)) (by omega) ⟨_, j + 1, k, l, by omega, by omega, by omega, hlk, hl.keep, rfl, rfl⟩
  · have hj5 : j = 5 := by omega
    subst hj5
    rcases k with _ | k
    · repeat' (first | refine xo 4000 rfl ?_ ?_ | refine xw 4000 rfl ?_ ?_ | refine xk 4000 rfl ?_ ?_ | exact trivial | ((with_reducible (show AllP (_ :: _))); refine And.intro ?_ ?_) | refine xs rfl ?_ ?_ | refine xs_done ?_ | refine pcond_t rfl ?_ | refine pcond_f rfl ?_ | refine kround_exit ?_ | refine kround_ret ?_ | refine kround_next ?_ | refine kloop_ret ?_ | refine kloop_exit ?_ | refine kcut_ret ?_ | refine kcut_exit ?_ | refine xo0 4000 rfl ?_ ?_ | refine xw0 4000 rfl ?_ ?_ | exact qq | fail)
      refine xdone ?_
      have : l = [] := List.length_eq_zero_iff.1 hlk
      subst this
      exact kdekL [] (qs := [vOs 0 (lF dO [])]) rfl b1 (by omega) (by simp) rfl ⟨trivial, trivial⟩ ⟨argNil, trivial⟩ ⟨[], rfl, hl⟩
    · repeat' (first | refine xo 4000 rfl ?_ ?_ | refine xw 4000 rfl ?_ ?_ | refine xk 4000 rfl ?_ ?_ | exact trivial | ((with_reducible (show AllP (_ :: _))); refine And.intro ?_ ?_) | refine xs rfl ?_ ?_ | refine xs_done ?_ | refine pcond_t rfl ?_ | refine pcond_f rfl ?_ | refine kround_exit ?_ | refine kround_ret ?_ | refine kround_next ?_ | refine kloop_ret ?_ | refine kloop_exit ?_ | refine kcut_ret ?_ | refine kcut_exit ?_ | refine xo0 4000 rfl ?_ ?_ | refine xw0 4000 rfl ?_ ?_ | exact qq | fail)
      refine xdone ?_
      refine kdekL [2] (qs := [vOs (k + 1) (lF dO l)]) rfl b1 (by omega) (by simp) rfl ⟨trivial, trivial⟩ ⟨arg_o (s := .own) cO_cl rfl trivial (List.Mem.head _), trivial⟩ ⟨l, ?_, hl⟩
      rw [← hlk]; rfl
end Go.Proofs.Ytipdkompinnghaa
