/- The sorted keys of a map: two calls as one step. -/
import Derived.Test.YtnjikclflfioeaaPvMap
set_option linter.unusedSimpArgs false
set_option linter.unusedVariables false
set_option maxRecDepth 100000
namespace Go.Proofs.Ytnjikclflfioeaa
open Go.MapKept Go.RowKit
/-- maps.Keys and slices.Sorted at a map of numbers -/
structure KeysSorted (P : Program) (fK fS fC : FuncId) (T E : TypeId) : Prop where
  okK : CallOk P fK
  okS : CallOk P fS
  keys : ∀ mb w, Calls P fK #[.map mb] w fun e w' => e = .returned (.func (.func fC) #[] #[.pointer (some ⟨w.heap.size, 0, none⟩)]) ∧ w' = w.alloc (.cells #[.map mb] T)
  sorted : ∀ (w : World) (b : Nat) (m : List (Int × Int)) (es : Array MapEntry) (clock : Nat), w.heap[b]? = some (.map es clock) → Stamped es clock → es.toList.map (fun e => (e.key, e.val)) = m.map (fun e => (kI e.1, Value.int .i64 e.2)) →
    (∀ e, e ∈ m → -9223372036854775808 ≤ e.1 ∧ e.1 ≤ 9223372036854775807) → m.length ≤ 100000 →
    Calls P fS #[.func (.func fC) #[] #[.pointer (some ⟨w.heap.size, 0, none⟩)]] (w.alloc (.cells #[.map (some b)] T)) fun e w' => ∃ (v : Value) (ks : List Int), e = .returned v ∧ ks.Perm (m.map (·.1)) ∧ ks.Pairwise (· ≤ ·) ∧
      Ext (w.alloc (.cells #[.map (some b)] T)) w' ∧ ((v = .slice none 0 0 ∧ ks = []) ∨ ks ≠ [] ∧ ∃ gb cap cur, v = .slice (some ⟨gb, 0, none⟩) ks.length cap ∧ w.heap.size + 1 ≤ gb ∧ w'.heap[gb]? = some (.cells cur E (0, 0)) ∧ ks.length ≤ cap ∧ cur.size = cap ∧ cur.toList.take ks.length = ks.map (Value.int .i64))
section
variable {N : Nat} {Γ : Fr} {st : PSt} {ρ : Nat → Loc} {I : Nat → Prop} {a : Act} {w w' : World}
/-- a block that a call made becomes a row -/
theorem Rel.madeRow (h : Rel N Γ st ρ I a w) (hx : Ext w w') {gb : Nat} {cur : Array Value} {E : TypeId} (hgb : w.heap.size ≤ gb) (hcur : w'.heap[gb]? = some (.cells cur E (0, 0))) (row : Row) (hs : row.s = .own)
    (hc : ∀ i, i < row.n → ∀ j, j < row.sz → ∃ u, cur[i * row.sz + j]? = some u ∧ u.oneCell' = true ∧ ∀ (k : Nat) (ρ' : Nat → Loc), VRel k ρ' I w' (row.f i j) u) :
    ∃ ρ2 : Nat → Loc, Rel N Γ ⟨st.tm, st.mem ++ [row]⟩ ρ2 I a w' ∧ (ρ2 st.mem.length) = ⟨gb, 0, row.sz⟩ := by
  have hr := h.ext hx (I' := I) (fun _ h => h) (fun _ h => .inl h)
  have hnI : ¬ I gb := fun hb => absurd (h.fr.m.lt gb hb) (by omega)
  have hlt : ∀ l r, st.mem[l]? = some r → (r.s.live ∨ r.s = .mp) → (ρ l).b < w.heap.size := fun l r hl hs => by
    rcases hs with hs | hs
    · exact h.lt hl hs
    · exact (h.fr.m.side l r hl hs).2.lt
  have hρ : ∀ l, l < st.mem.length → addLoc ρ st.mem.length ⟨gb, 0, row.sz⟩ l = ρ l := fun l hl => if_neg (by omega)
  have hρn : addLoc ρ st.mem.length ⟨gb, 0, row.sz⟩ st.mem.length = ⟨gb, 0, row.sz⟩ := if_pos rfl
  have up : ∀ {p : PV} {v : Value}, VRel st.mem.length ρ I w' p v → VRel (st.mem ++ [row]).length (addLoc ρ st.mem.length ⟨gb, 0, row.sz⟩) I w' p v := fun hv =>
    hv.up (by simp) hρ (fun _ h => h) (Tr.refl _ _)
  have get : ∀ (l : Nat) (r : Row), (st.mem ++ [row])[l]? = some r → (l < st.mem.length ∧ st.mem[l]? = some r) ∨ (l = st.mem.length ∧ r = row) := fun l r hl => by
    by_cases hlt : l < st.mem.length
    · rw [List.getElem?_append_left hlt] at hl; exact .inl ⟨hlt, hl⟩
    · rw [List.getElem?_append_right (by omega)] at hl
      by_cases he : l = st.mem.length
      · subst he; simp at hl; exact .inr ⟨rfl, hl.symm⟩
      · rw [List.getElem?_eq_none (by simp; omega)] at hl; cases hl
  refine ⟨_, ⟨⟨⟨fun l r hl hlive => ?_, fun l l' r r' hne hl hl' hs1 hs2 => ?_, fun l r hl ho hb => ?_, fun l r hl hi => ?_, hr.fr.m.lt, fun l r hl hm => ?_, fun l l' r r' hne hl hl' hs1 hs2 => ?_⟩, hr.fr.os, hr.fr.tape, hr.fr.output, hr.fr.size, hr.fr.block, hr.fr.shape, hr.fr.old, hr.fr.new, fun l r hl ho hlt => ?_, fun l r hl ho hk => ?_, by simp; exact Nat.le_succ_of_le h.fr.k0, fun l hl => ?_, fun l r hl hm hk => ?_⟩, hr.defers, hr.size, fun t => up (hr.slot t)⟩, hρn⟩
  · rcases get l r hl with ⟨hlt, hl⟩ | ⟨rfl, rfl⟩
    · rw [hρ l hlt]
      obtain ⟨h1, cs', T', h2, h3⟩ := hr.fr.m.row l r hl hlive
      refine ⟨h1, cs', T', h2, fun i hi j hj => ?_⟩
      obtain ⟨u, g1, g2, g3⟩ := h3 i hi j hj
      exact ⟨u, g1, g2, up g3⟩
    · rw [hρn]
      refine ⟨rfl, cur, E, hcur, fun i hi j hj => ?_⟩
      obtain ⟨u, g1, g2, g3⟩ := hc i hi j hj
      exact ⟨u, by simpa using g1, g2, g3 _ _⟩
  · rcases get l r hl with ⟨hlt1, hA⟩ | ⟨e1, e2⟩ <;> rcases get l' r' hl' with ⟨hlt2, hB⟩ | ⟨e3, e4⟩
    · rw [hρ l hlt1, hρ l' hlt2]; exact h.fr.m.apart l l' r r' hne hA hB hs1 hs2
    · rw [hρ l hlt1, e3, hρn]; have := hlt _ _ hA (.inl hs1); simp; omega
    · rw [hρ l' hlt2, e1, hρn]; have := hlt _ _ hB (.inl hs2); simp; omega
    · exact absurd (e1.trans e3.symm) hne
  · rcases get l r hl with ⟨hlt, hl⟩ | ⟨rfl, rfl⟩
    · rw [hρ l hlt] at hb; exact h.fr.m.mine l r hl ho hb
    · rw [hρn] at hb; exact hnI hb
  · rcases get l r hl with ⟨hlt, hl⟩ | ⟨rfl, rfl⟩
    · rw [hρ l hlt]; exact h.fr.m.imm l r hl hi
    · rw [hs] at hi; cases hi
  · rcases get l r hl with ⟨hlt, hl⟩ | ⟨rfl, rfl⟩
    · rw [hρ l hlt]
      obtain ⟨g1, g2⟩ := hr.fr.m.side l r hl hm
      exact ⟨g1, g2.up (Nat.le_refl _) rfl (.refl _) fun i hi j hj v hv => up hv⟩
    · rw [hs] at hm; cases hm
  · rcases get l r hl with ⟨hlt1, hA⟩ | ⟨e1, e2⟩ <;> rcases get l' r' hl' with ⟨hlt2, hB⟩ | ⟨e3, e4⟩
    · rw [hρ l hlt1, hρ l' hlt2]; exact h.fr.m.sap l l' r r' hne hA hB hs1 hs2
    · rw [e4, hs] at hs2; cases hs2
    · rw [e2, hs] at hs1; cases hs1
    · exact absurd (e1.trans e3.symm) hne
  · rcases get l r hl with ⟨hlt', hl⟩ | ⟨rfl, rfl⟩
    · rw [hρ l hlt'] at hlt ⊢; exact h.fr.own l r hl ho hlt
    · rw [hρn] at hlt; have := h.fr.size; simp at hlt; omega
  · rcases get l r hl with ⟨hlt', hl⟩ | ⟨rfl, rfl⟩
    · rw [hρ l hlt']; exact h.fr.fresh l r hl ho hk
    · rw [hρn]; have := h.fr.size; simp; omega
  · rw [hρ l (Nat.lt_of_lt_of_le hl h.fr.k0)]; exact h.fr.ρ0 l hl
  · rcases get l r hl with ⟨hlt', hl⟩ | ⟨rfl, rfl⟩
    · rw [hρ l hlt']; exact h.fr.sfresh l r hl hm hk
    · rw [hs] at hm; cases hm
end
section
variable {G : Pg} {N : Nat} {Γ : Fr} {st : PSt} {K : Exit → PSt → Prop} {ops : Array Oper} {o1 o2 : Oper} {rest : List Oper} {d1 d2 l : Nat} {x y z : Operand} {fK fS fC : FuncId} {T E : TypeId} {m : List (Int × Int)} {c1' c2' : Nat → PV} {t1 t2 : Array TypeId}
theorem pop_keys (C : KeysSorted G.P fK fS fC T E) (hg1 : o1.guard = none) (hd1 : o1.dst = some d1) (hN1 : Nat.blt d1 N = true) (ho1 : o1.op = .call ⟨.value x, #[y], t1⟩) (hx : st.ev x = .clo fK 0 c1') (hy : st.ev y = .mref l) (hr : rowAt st.mem l = some (mRow kI m))
    (hg2 : o2.guard = none) (hd2 : o2.dst = some d2) (hN2 : Nat.blt d2 N = true) (ho2 : o2.op = .call ⟨.value z, #[.tmp d1], t2⟩) (hz : (st.put d1 .junk).ev z = .clo fS 0 c2') (hb : ∀ e, e ∈ m → -9223372036854775808 ≤ e.1 ∧ e.1 ≤ 9223372036854775807) (hm : m.length ≤ 100000)
    (h : ∀ ks : List Int, ks.Perm (m.map (·.1)) → ks.Pairwise (· ≤ ·) → POps G N Γ ops rest (PSt.put ⟨(d1, .junk) :: st.tm, st.mem ++ [vRow c1 1 ks.length (lF 0 ks)]⟩ d2 (slP ks.length st.mem.length)) K) : POps G N Γ ops (o1 :: o2 :: rest) st K := .mk fun ρ I a w hrel => by
  have hw1 : Region.wanted o1 (yielded ops a.tmps) = true := by simp [Region.wanted, hg1]
  simp only [wpList, hw1, if_true]
  refine .inl ?_
  rw [rowAt_get] at hr
  have hd1N : d1 < N := by rwa [Nat.blt_eq] at hN1
  have hxv := ev_rel hrel x
  rw [hx] at hxv
  obtain ⟨cap1, e1, e2, _⟩ := hxv
  have hcap1 : cap1 = #[] := by apply Array.eq_empty_of_size_eq_zero e2
  subst hcap1
  have hyv := ev_rel hrel y
  rw [hy] at hyv
  obtain ⟨_, hyv⟩ := hyv
  obtain ⟨_, _, hs⟩ := hrel.fr.m.side l _ hr rfl
  obtain ⟨es, clock, q1, q2, q3⟩ := (hs Nat.zero_lt_one).1 rfl
  simp only [Oper.wp, call_run C.okK ho1 e1, Oper.upon_enter]
  have ea : (#[y].map a.eval ++ #[] : Array Value) = #[.map (some (ρ l).b)] := by simp [hyv]
  rw [ea]
  refine (C.keys _ w).mono ?_
  rintro e w1 ⟨rfl, rfl⟩
  have hx1 : Ext w (w.alloc (.cells #[.map (some (ρ l).b)] T)) := Below.alloc (Below.refl _ _) (Nat.le_refl _) _
  have hr1 := (hrel.ext hx1 (I' := I) (fun _ h => h) (fun _ h => .inl h)).put (d := d1) hd1N (p := .junk) (v := .func (.func fC) #[] #[.pointer (some ⟨w.heap.size, 0, none⟩)]) trivial
  simp only [hd1]
  generalize ha1 : a.put (some d1) (.func (.func fC) #[] #[.pointer (some ⟨w.heap.size, 0, none⟩)]) = a1 at hr1 ⊢
  have hev : a1.eval (.tmp d1) = .func (.func fC) #[] #[.pointer (some ⟨w.heap.size, 0, none⟩)] := by
    have := hrel.size
    rw [← ha1]
    simp [Act.eval, Act.put, Array.getD_eq_getD_getElem?, Array.getElem?_setIfInBounds, this, hd1N]
  have hw2 : Region.wanted o2 (yielded ops a1.tmps) = true := by simp [Region.wanted, hg2]
  simp only [hw2, if_true]
  refine .inl ?_
  have hzv := ev_rel hr1 z
  rw [hz] at hzv
  obtain ⟨cap2, f1, f2, _⟩ := hzv
  have hcap2 : cap2 = #[] := by apply Array.eq_empty_of_size_eq_zero f2
  subst hcap2
  simp only [Oper.wp, call_run C.okS ho2 f1, Oper.upon_enter]
  have ea2 : (#[Operand.tmp d1].map a1.eval ++ #[] : Array Value) = #[.func (.func fC) #[] #[.pointer (some ⟨w.heap.size, 0, none⟩)]] := by simp [hev]
  rw [ea2]
  refine (C.sorted w _ m es clock q1 q2 (mapV_eq q3) hb hm).mono ?_
  rintro e w2 ⟨v, ks, rfl, k1, k2, k3, k4⟩
  have hk := h ks k1 k2
  simp only [hd2]
  rcases k4 with ⟨rfl, rfl⟩ | ⟨hne, gb, cap, cur, rfl, g1, g2, g3, g4, g5⟩
  · have hr2 := hr1.ext k3 (I' := I) (fun _ h => h) (fun _ h => .inl h)
    obtain ⟨ρ3, I3, hr3⟩ := can_virt (vRow c1 1 0 (lF 0 [])) rfl _ _ _ _ hr2
    exact hk.go ρ3 I3 _ w2 (hr3.put (by rwa [Nat.blt_eq] at hN2) rfl)
  · obtain ⟨n, hn⟩ : ∃ n, ks.length = n + 1 := by cases ks with | nil => exact absurd rfl hne | cons x ks => exact ⟨_, rfl⟩
    rw [hn] at hk g3 g5 ⊢
    obtain ⟨ρ3, hr3, hρ3⟩ := hr1.madeRow k3 (gb := gb) (by simpa using g1) g2 (vRow c1 1 (n + 1) (lF 0 ks)) rfl (fun i hi j hj => by
      have hi : i < n + 1 := hi
      obtain rfl : j = 0 := by have : j < 1 := hj; omega
      have h1 : (cur.toList.take (n + 1))[i]? = (ks.map (Value.int .i64))[i]? := by rw [g5]
      rw [List.getElem?_take_of_lt hi, List.getElem?_map, List.getElem?_eq_getElem (show i < ks.length by omega)] at h1
      refine ⟨.int .i64 (ks[i]'(by omega)), ?_, rfl, fun k ρ' => ?_⟩
      · show cur[i * 1 + 0]? = _
        rw [Nat.mul_one, Nat.add_zero]
        simpa using h1
      · show Value.int .i64 (ks[i]'(by omega)) = .int .i64 (lF 0 ks i)
        unfold lF
        rw [List.getD_eq_getElem?_getD, List.getElem?_eq_getElem (show i < ks.length by omega)]; rfl)
    refine hk.go ρ3 I _ w2 (hr3.put (by rwa [Nat.blt_eq] at hN2) ⟨by simp [PSt.put], .inr ⟨cap, by omega, ?_, cur, E, (0, 0), ?_, ?_⟩⟩)
    · show _ = Value.slice (some ⟨(ρ3 st.mem.length).b, (ρ3 st.mem.length).o + 0 * (ρ3 st.mem.length).sz, none⟩) _ _
      have hρ3' : ρ3 st.mem.length = ⟨gb, 0, 1⟩ := hρ3
      rw [hρ3']; simp
    · have hρ3' : ρ3 st.mem.length = ⟨gb, 0, 1⟩ := hρ3
      rw [hρ3']; exact g2
    · have hρ3' : ρ3 st.mem.length = ⟨gb, 0, 1⟩ := hρ3
      rw [hρ3']; simp; omega
end
end Go.Proofs.Ytnjikclflfioeaa
