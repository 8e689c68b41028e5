/- Going through a map: what goes through it as a row (kind mp, size 3): the map's row, the numbers of the entries that came, its own address. -/
import Derived.Test.YtpaeomgnmimjoaaDoorPvMap
import Derived.Maps.RangeRun
set_option linter.unusedSimpArgs false
set_option linter.unusedVariables false
namespace Go.Proofs.YtpaeomgnmimjoaaDoor
open Go.MapKept
open Go.ChangeMaps (setBlock)
def iV (l : List Nat) : Value := .tuple ((l.map fun i : Nat => Value.int .i64 i).toArray)
def itRow (r l : Nat) (s : List Nat) : Row := ⟨.mp, false, 1, 3, fun _ => nthP [.mref l, .val (iV s), .ptr r 0 0]⟩
theorem it_eq {r r' l l' : Nat} {s : List Nat} {τ : Nat → Option Nat} (h : τ l = some l') (h' : τ r = some r') : RowEq ((itRow r l s).ren τ) (itRow r' l' s) := ⟨rfl, rfl, Nat.le_refl _, fun i _ j hj => by
  have hj : j < 3 := hj
  rcases (by omega : j = 0 ∨ j = 1 ∨ j = 2) with rfl | rfl | rfl
  · show PEq ((PV.mref l).ren τ) (.mref l')
    unfold PV.ren; rw [h]; exact PEq.refl _
  · exact PEq.refl _
  · show PEq ((PV.ptr r 0 0).ren τ) (.ptr r' 0 0)
    unfold PV.ren; rw [h']; exact PEq.refl _⟩
theorem iV_inj {s : Array Nat} {l : List Nat} (h : Value.tuple (s.map fun i : Nat => Value.int .i64 i) = iV l) : s.toList = l := by
  unfold iV at h
  injection h with h
  have h2 := congrArg Array.toList h
  simp only [Array.toList_map] at h2
  have : ∀ a b : List Nat, a.map (fun i : Nat => Value.int .i64 i) = b.map (fun i : Nat => Value.int .i64 i) → a = b := by
    intro a
    induction a with
    | nil => intro b hb; cases b <;> simp_all
    | cons x a ih =>
      intro b hb
      cases b with
      | nil => simp at hb
      | cons y b =>
        simp only [List.map_cons, List.cons.injEq, Value.int.injEq, true_and] at hb
        rw [ih b hb.2, show x = y by omega]
  exact this _ _ (by simpa using h2)
section
variable {N : Nat} {Γ : Fr} {st : PSt} {ρ : Nat → Loc} {I : Nat → Prop} {a : Act} {w : World}
/-- what goes through a map has changed -/
theorem Rel.setIter (h : Rel N Γ st ρ I a w) {l : Nat} {r : Row} (hl : st.mem[l]? = some r) (ho : r.s = .mp) (hk0 : Γ.k0 ≤ l) {m0 : Option Nat} {c1 : Nat} {s1 : Array Nat} {c2 : Nat} (hob : w.heap[(ρ l).b]? = some (.mapIter m0 c1 s1 c2)) {m0' : Option Nat} {c1' : Nat} {s1' : Array Nat} {c2' : Nat} (row : Row) (hs : row.s = .mp)
    (hv : ∀ (k' : Nat) (w' : World), w'.heap[(ρ l).b]? = some (.mapIter m0' c1' s1' c2') → (∀ (b : Nat) (o : Obj), w.heap[b]? = some o → (∀ a b c d, o ≠ Obj.mapIter a b c d) → w'.heap[b]? = some o) → k' = st.mem.length → SideAt k' ρ I w' (ρ l).b row) :
    Rel N Γ ⟨st.tm, st.mem.set l row⟩ ρ I a (setBlock w (ρ l).b (.mapIter m0' c1' s1' c2')) := by
  obtain ⟨hnI, hside⟩ := h.fr.m.side l r hl ho
  have hlt := hside.lt
  have hlen : l < st.mem.length := lt_get hl
  have hself : (setBlock w (ρ l).b (.mapIter m0' c1' s1' c2')).heap[(ρ l).b]? = some (.mapIter m0' c1' s1' c2') := by simp [setBlock, hlt]
  have hother : ∀ b, b ≠ (ρ l).b → (setBlock w (ρ l).b (.mapIter m0' c1' s1' c2')).heap[b]? = w.heap[b]? := fun b hb => by simp [setBlock, Array.getElem?_setIfInBounds, Ne.symm hb]
  have hne : ∀ (b : Nat) (o : Obj), w.heap[b]? = some o → (∀ a b c d, o ≠ Obj.mapIter a b c d) → b ≠ (ρ l).b := fun b o hb hno e => by
    subst e; rw [hob] at hb; exact hno _ _ _ _ (Option.some.inj hb).symm
  have hnc : ∀ (b : Nat) cs T fz, w.heap[b]? = some (Obj.cells cs T fz) → b ≠ (ρ l).b := fun b cs T fz hb => hne b _ hb (fun _ _ _ _ e => by cases e)
  have hos : (setBlock w (ρ l).b (.mapIter m0' c1' s1' c2')).os = w.os := rfl
  have htape : (setBlock w (ρ l).b (.mapIter m0' c1' s1' c2')).tape = w.tape := rfl
  have hout : (setBlock w (ρ l).b (.mapIter m0' c1' s1' c2')).output = w.output := rfl
  have hhs : (setBlock w (ρ l).b (.mapIter m0' c1' s1' c2')).heap.size = w.heap.size := by simp [setBlock]
  generalize setBlock w (ρ l).b (.mapIter m0' c1' s1' c2') = w' at hself hother hos htape hout hhs ⊢
  have ht : Tr I w w' := ⟨fun b hb => hother b (fun e => hnI (e ▸ hb)), fun b cs T fz hb => ⟨cs, by rw [hother b (hnc b cs T fz hb)]; exact hb, rfl⟩⟩
  have up : ∀ {p : PV} {v : Value}, VRel st.mem.length ρ I w p v → VRel (st.mem.set l row).length ρ I w' p v := fun hv => hv.up (by simp) (fun _ _ => rfl) (fun _ h => h) ht
  have get : ∀ (l' : Nat) (r' : Row), (st.mem.set l row)[l']? = some r' → (l' ≠ l ∧ st.mem[l']? = some r') ∨ (l' = l ∧ r' = row) := fun l' r' hl' => by
    by_cases he : l' = l
    · subst he; rw [List.getElem?_set_self hlen] at hl'; exact .inr ⟨rfl, by simpa using hl'.symm⟩
    · rw [List.getElem?_set_ne (Ne.symm he)] at hl'; exact .inl ⟨he, hl'⟩
  have getL : ∀ (l' : Nat) (r' : Row), (st.mem.set l row)[l']? = some r' → r'.s.live → st.mem[l']? = some r' := fun l' r' hl' hlv => by
    rcases get l' r' hl' with ⟨_, h⟩ | ⟨_, rfl⟩
    · exact h
    · rw [hs] at hlv; exact hlv.elim
  refine ⟨⟨⟨fun l' r' hl' hlive => ?_, fun l1 l2 r1 r2 hne h1 h2 hs1 hs2 => ?_, fun l' r' hl' ho' hb2 => ?_, fun l' r' hl' hi => ?_, fun b hb2 => ?_, fun l' r' hl' hm => ?_, fun l1 l2 r1 r2 hne h1 h2 hs1 hs2 => ?_⟩, hos.trans h.fr.os, htape.trans h.fr.tape, hout.trans h.fr.output, by rw [hhs]; exact h.fr.size, fun b hb2 he => ?_, fun b c2 T2 fz hb2 => ?_, h.fr.old, h.fr.new, fun l' r' hl' ho' hlt => ?_, fun l' r' hl' ho' hk => ?_, by simpa using h.fr.k0, h.fr.ρ0, fun l' r' hl' hm hk => ?_, h.fr.gl.mono (fun _ h => h) ht⟩, h.defers, h.size, fun t => up (h.slot t)⟩
  · obtain ⟨h1, c2, T2, h2, h3⟩ := h.fr.m.row l' r' (getL l' r' hl' hlive) hlive
    refine ⟨h1, c2, T2, by rw [hother _ (hnc _ _ _ _ h2)]; exact h2, fun i hi j hj => ?_⟩
    obtain ⟨u, g1, g2, g3⟩ := h3 i hi j hj
    exact ⟨u, g1, g2, up g3⟩
  · exact h.fr.m.apart l1 l2 r1 r2 hne (getL _ _ h1 hs1) (getL _ _ h2 hs2) hs1 hs2
  · exact h.fr.m.mine l' r' (getL _ _ hl' (RS.live_of_own ho')) ho' hb2
  · exact h.fr.m.imm l' r' (getL _ _ hl' (by rw [hi]; trivial)) hi
  · rw [hhs]; exact h.fr.m.lt b hb2
  · rcases get l' r' hl' with ⟨n1, h1⟩ | ⟨rfl, rfl⟩
    · obtain ⟨g1, ⟨o, o1, o2⟩, g3⟩ := h.fr.m.side l' r' h1 hm
      have hap := h.fr.m.sap l' l r' r n1 h1 hl hm ho
      refine ⟨g1, ⟨o, by rw [hother _ hap]; exact o1, o2⟩, fun h0 => ⟨fun hz1 => ?_, fun hz2 => ?_⟩⟩
      · obtain ⟨es, clock, q1, q2, q3⟩ := (g3 h0).1 hz1
        exact ⟨es, clock, by rw [hother _ hap]; exact q1, q2, up q3⟩
      · obtain ⟨mb, es, clock, seen, js, q1, q2, q3, q4, q6, q5⟩ := (g3 h0).2 hz2
        exact ⟨mb, es, clock, seen, js, by rw [hother _ hap]; exact q1, by rw [hother _ (hne _ _ q2 (fun _ _ _ _ e => by cases e))]; exact q2, up q3, up q4, up q6, q5⟩
    · exact ⟨hnI, hv _ w' hself (fun b' o' hb hno => (hother b' (hne b' o' hb hno)).trans hb) (by simp)⟩
  · rcases get l1 r1 h1 with ⟨n1, hA⟩ | ⟨e1, e2⟩ <;> rcases get l2 r2 h2 with ⟨n2, hB⟩ | ⟨e3, e4⟩
    · exact h.fr.m.sap l1 l2 r1 r2 hne hA hB hs1 hs2
    · rw [e3]; exact h.fr.m.sap l1 l r1 r n1 hA hl hs1 ho
    · rw [e1]; exact h.fr.m.sap l l2 r r2 (Ne.symm n2) hl hB ho hs2
    · exact absurd (e1.trans e3.symm) hne
  · by_cases e : b = (ρ l).b
    · exact absurd hb2 (by rw [e]; exact Nat.not_lt.2 (h.fr.sfresh l r hl ho hk0))
    · rw [hother b e]; exact h.fr.block b hb2 he
  · obtain ⟨cs1, h1, h2⟩ := h.fr.shape b c2 T2 fz hb2
    obtain ⟨cs2, h3, h4⟩ := ht.shape b cs1 T2 fz h1
    exact ⟨cs2, h3, h4.trans h2⟩
  · exact h.fr.own l' r' (getL _ _ hl' (RS.live_of_own ho')) ho' hlt
  · exact h.fr.fresh l' r' (getL _ _ hl' (RS.live_of_own ho')) ho' hk
  · rcases get l' r' hl' with ⟨n1, h1⟩ | ⟨rfl, rfl⟩
    · exact h.fr.sfresh l' r' h1 hm hk
    · exact h.fr.sfresh l' r hl ho hk
end
section
variable {G : Pg} {N : Nat} {Γ : Fr} {st : PSt} {K : Exit → PSt → Prop} {ops : Array Oper} {o : Oper} {rest : List Oper} {d l r : Nat} {x y z : Operand} {t : TypeId} {KT : Type} {kv : KT → Value} {m : List (KT × Int)} {s : List Nat}
/-- range -/
theorem pop_range {kt et : TypeId} (ht : G.P.underlying t = some (.map kt et)) (hg : o.guard = none) (hd : o.dst = some d) (hN : Nat.blt d N = true) (ho : o.op = .range t x) (hx : st.ev x = .mref l) (hr : rowAt st.mem l = some (mRow kv m)) {k : Nat} {m' : List Row} (hm : snocM st.mem (itRow k l []) 0 (fun k m => some (k, m)) = some (k, m')) (h : POps G N Γ ops rest (PSt.put ⟨st.tm, m'⟩ d (.ptr k 0 0)) K) : POps G N Γ ops (o :: rest) st K := .mk fun ρ I a w hrel => by
  have hw : Region.wanted o (yielded ops a.tmps) = true := by simp [Region.wanted, hg]
  simp only [wpList, hw, if_true]
  refine .inl ?_
  rw [rowAt_get] at hr
  have hxv := ev_rel hrel x
  rw [hx] at hxv
  obtain ⟨hlk, hxv⟩ := hxv
  obtain ⟨_, _, hs⟩ := hrel.fr.m.side l _ hr rfl
  obtain ⟨es, clock, q1, q2, q3⟩ := (hs Nat.zero_lt_one).1 rfl
  have hv : (execOp a.eval o).run G.P w = .ok (.value (.pointer (some ⟨w.heap.size, 0, none⟩))) (w.alloc (.mapIter (some (ρ l).b) clock #[] clock)) := by
    unfold execOp
    rw [ho]
    simp only [hxv, Sem.run_bind, run_range_map w t kt et _ es clock ht q1, Result.andThen, Sem.run_pure]
  rw [snocM_eq] at hm
  simp only [Option.some.injEq, Prod.mk.injEq, Nat.zero_add] at hm
  obtain ⟨hk, rfl⟩ := hm
  subst hk
  simp only [Oper.wp, hv, Oper.upon_value, hd]
  have hblt : (ρ l).b < w.heap.size := (Array.getElem?_eq_some_iff.1 q1).1
  have hr2 := hrel.newMap (itRow st.mem.length l []) rfl (.mapIter (some (ρ l).b) clock #[] clock) (fun _ _ _ e => by cases e) (fun k' ρ' w' hold hb hk' hρ' hρn => ⟨⟨_, hb, fun _ _ _ e => by cases e⟩, fun _ => ⟨(fun hz => by cases hz), fun _ => ⟨(ρ l).b, es, clock, #[], #[], hb, by rw [hold _ hblt]; exact q1, ⟨by omega, by rw [hρ' l hlk]⟩, (show Value.tuple _ = iV [] by unfold iV; simp), ⟨hk', by simp [hρn]⟩, rfl, fun q i hq => by simp at hq⟩⟩⟩)
  refine h.go _ I _ _ (hr2.put (by rwa [Nat.blt_eq] at hN) ⟨by simp, ?_⟩)
  simp [addLoc]
/-- next: over, or one more -/
theorem pop_next (hg : o.guard = none) (hd : o.dst = some d) (hN : Nat.blt d N = true) (ho : o.op = .next x false) (hx : st.ev x = .ptr r 0 0) (hr : rowAt st.mem r = some (itRow r l s)) (hl : rowAt st.mem l = some (mRow kv m)) (hk : Γ.k0 ≤ r) {m' : Nat → List Row} (hm : ∀ j, setM st.mem r (itRow r l (s ++ [j])) some = some (m' j))
    (h0 : (∀ j, j < m.length → j ∈ s) → POps G N Γ ops rest (st.put d (.tup 1 (nthP [vb false]))) K)
    (h1 : ∀ j k v, m[j]? = some (k, v) → j ∉ s → POps G N Γ ops rest (PSt.put ⟨st.tm, m' j⟩ d (.tup 3 (nthP [vb true, .val (kv k), vi v]))) K) : POps G N Γ ops (o :: rest) st K := .mk fun ρ I a w hrel => by
  have hw : Region.wanted o (yielded ops a.tmps) = true := by simp [Region.wanted, hg]
  simp only [wpList, hw, if_true]
  refine .inl ?_
  rw [rowAt_get] at hr hl
  have hxv := ev_rel hrel x
  rw [hx] at hxv
  obtain ⟨hrk, hxv⟩ := hxv
  obtain ⟨_, _, hs⟩ := hrel.fr.m.side l _ hl rfl
  obtain ⟨es0, clock0, q1, q2, q3⟩ := (hs Nat.zero_lt_one).1 rfl
  obtain ⟨_, _, hs'⟩ := hrel.fr.m.side r _ hr rfl
  obtain ⟨mb, es, clock, seen, js, u1, u2, ⟨u3a, u3⟩, u4, ⟨u7a, u7⟩, u5, u6⟩ := (hs' Nat.zero_lt_one).2 rfl
  have hbe : mb = (ρ l).b := by injection u3 with u3; injection u3
  subst hbe
  rw [q1] at u2
  injection u2 with u2
  injection u2 with e1 e2
  subst e1; subst e2
  have hxv := hxv.trans u7.symm
  have u4 := iV_inj u4
  have hes := mapV_eq q3
  have hlen : es0.toList.length = m.length := by have := congrArg List.length hes; simpa using this
  have hget := fun j => ent_get hes j
  rcases run_next_at (P := G.P) w o.type (ρ r).b (ρ l).b clock0 clock0 seen es0 clock0 u1 q1 q2.1 (Nat.le_refl _) with ⟨n1, n2⟩ | ⟨e, he, w1, hw1, n2⟩
  · have hv : (execOp a.eval o).run G.P w = .ok (.value (.tuple #[.bool false])) w := by
      unfold execOp
      rw [ho]
      simp only [hxv, Sem.run_bind, n2, Result.andThen, Sem.run_pure]
    simp only [Oper.wp, hv, Oper.upon_value, hd]
    refine (h0 fun j hj => ?_).go ρ I _ w (hrel.put (by rwa [Nat.blt_eq] at hN) ⟨_, rfl, rfl, fun i hi => ?_⟩)
    · have hj' : j < es0.size := by simpa using (show j < es0.toList.length by omega)
      have hin : es0[j].born ∈ seen := by
        by_cases hc : es0[j].born ∈ seen
        · exact hc
        · exfalso
          have : es0[j] ∈ leftOf es0 seen := by unfold leftOf; rw [Array.mem_filter]; exact ⟨Array.getElem_mem hj', by simpa using hc⟩
          rw [Array.eq_empty_of_size_eq_zero n1] at this
          simp at this
      obtain ⟨q, hq, hqe⟩ := Array.getElem_of_mem hin
      have hq2 : q < js.size := by omega
      obtain ⟨e2, f1, f2⟩ := u6 q js[q] (Array.getElem?_eq_getElem hq2)
      rw [Array.getElem?_eq_getElem hq] at f2
      have f2 := Option.some.inj f2
      obtain ⟨f3, f4⟩ := Array.getElem?_eq_some_iff.1 f1
      have hnd := q2.2.1
      have : j = js[q] := by
        have h1 : (es0.toList.map (·.born))[j]'(by simpa using hj') = (es0.toList.map (·.born))[js[q]]'(by simpa using f3) := by
          simp only [List.getElem_map, Array.getElem_toList]
          rw [f4, ← f2, hqe]
        exact (List.getElem_inj hnd).1 h1
      rw [this, ← u4]
      simp
    · have hi : i < 1 := hi
      obtain rfl : i = 0 := by omega
      exact rfl
  · have he' := he
    unfold leftOf at he'
    simp only [Array.toList_filter, List.mem_filter] at he'
    obtain ⟨he1, he2⟩ := he'
    obtain ⟨j, hj, hje⟩ := List.getElem_of_mem he1
    have hg' := hget j
    rw [List.getElem?_eq_getElem hj, hje] at hg'
    obtain ⟨⟨k, v⟩, hkv⟩ : ∃ p, m[j]? = some p := ⟨m[j]'(by omega), List.getElem?_eq_getElem _⟩
    rw [hkv] at hg'
    simp only [Option.map_some, Option.some.injEq, Prod.mk.injEq] at hg'
    have hv : (execOp a.eval o).run G.P w = .ok (.value (.tuple #[.bool true, kv k, .int .i64 v])) (setBlock w1 (ρ r).b (.mapIter (some (ρ l).b) clock0 (seen.push e.born) clock0)) := by
      unfold execOp
      rw [ho]
      simp only [hxv, Sem.run_bind, n2, Result.andThen, Sem.run_pure, hg'.1, hg'.2]
    have hm := hm j
    rw [setM_eq] at hm
    simp only [Option.some.injEq] at hm
    simp only [Oper.wp, hv, Oper.upon_value, hd]
    have hrel1 : Rel N Γ st ρ I a w1 := by rcases hw1 with rfl | rfl <;> first | exact hrel | exact hrel.drew
    have u1' : w1.heap[(ρ r).b]? = some (.mapIter (some (ρ l).b) clock0 seen clock0) := by rcases hw1 with rfl | rfl <;> exact u1
    have q1' : w1.heap[(ρ l).b]? = some (.map es0 clock0) := by rcases hw1 with rfl | rfl <;> exact q1
    have hjs : j ∉ s := fun hjs => by
      rw [← u4] at hjs
      have hjs : j ∈ js := by simpa using hjs
      obtain ⟨q, hq, hqe⟩ := Array.getElem_of_mem hjs
      obtain ⟨e2, f1, f2⟩ := u6 q j (by rw [Array.getElem?_eq_getElem hq, hqe])
      have : e2 = e := by
        have h3 : es0[j]? = some e := by rw [← hje]; simp
        rw [h3] at f1; exact (Option.some.inj f1).symm
      subst this
      have : e2.born ∈ seen := Array.mem_of_getElem? f2
      simp at he2
      exact he2 this
    have hset : Rel N Γ ⟨st.tm, st.mem.set r (itRow r l (s ++ [j]))⟩ ρ I a (setBlock w1 (ρ r).b (.mapIter (some (ρ l).b) clock0 (seen.push e.born) clock0)) := by
      refine hrel1.setIter hr rfl hk u1' (itRow r l (s ++ [j])) rfl (fun k' w' hself hold hk' => ⟨⟨_, hself, fun _ _ _ e => by cases e⟩, fun _ => ⟨(fun hz => by cases hz), fun _ => ?_⟩⟩)
      refine ⟨(ρ l).b, es0, clock0, seen.push e.born, js.push j, hself, hold _ _ q1' (fun _ _ _ _ e => by cases e), ⟨by omega, rfl⟩, ?_, ⟨by omega, u7⟩, by simp [u5], fun q i hq => ?_⟩
      · show Value.tuple _ = iV (s ++ [j])
        unfold iV
        rw [← u4]
        congr 1
        apply Array.ext'
        simp
      · by_cases hqs : q = js.size
        · subst hqs
          simp at hq
          subst hq
          exact ⟨e, by rw [← hje]; simp, by rw [u5]; simp⟩
        · have hlt : q < js.size := by
            have := (Array.getElem?_eq_some_iff.1 hq).1
            simp at this; omega
          rw [Array.getElem?_push_lt hlt] at hq
          obtain ⟨e2, f1, f2⟩ := u6 q i (by rw [Array.getElem?_eq_getElem hlt]; exact hq)
          refine ⟨e2, f1, ?_⟩
          rw [Array.getElem?_push_lt (by omega), ← Array.getElem?_eq_getElem]; exact f2
    rw [hm] at hset
    refine (h1 j k v hkv hjs).go ρ I _ _ (Rel.put (st := ⟨st.tm, m' j⟩) hset (by rwa [Nat.blt_eq] at hN) ⟨_, rfl, rfl, fun i hi => ?_⟩)
    have hi : i < 3 := hi
    rcases (by omega : i = 0 ∨ i = 1 ∨ i = 2) with rfl | rfl | rfl <;> exact rfl
theorem pop_entry (hg : o.guard = none) (hd : o.dst = some d) (hN : Nat.blt d N = true) (ho : o.op = .entry x) (hx : st.ev x = .ptr r 0 0) {j : Nat} (hr : rowAt st.mem r = some (itRow r l (s ++ [j]))) (hl : rowAt st.mem l = some (mRow kv m)) {k : KT} {v : Int} (hj : m[j]? = some (k, v))
    (h : POps G N Γ ops rest (st.put d (.tup 2 (nthP [.val (kv k), vi v]))) K) : POps G N Γ ops (o :: rest) st K := .mk fun ρ I a w hrel => by
  have hw : Region.wanted o (yielded ops a.tmps) = true := by simp [Region.wanted, hg]
  simp only [wpList, hw, if_true]
  refine .inl ?_
  rw [rowAt_get] at hr hl
  have hxv := ev_rel hrel x
  rw [hx] at hxv
  obtain ⟨hrk, hxv⟩ := hxv
  obtain ⟨_, _, hs⟩ := hrel.fr.m.side l _ hl rfl
  obtain ⟨es0, clock0, q1, q2, q3⟩ := (hs Nat.zero_lt_one).1 rfl
  obtain ⟨_, _, hs'⟩ := hrel.fr.m.side r _ hr rfl
  obtain ⟨mb, es, clock, seen, js, u1, u2, ⟨u3a, u3⟩, u4, ⟨u7a, u7⟩, u5, u6⟩ := (hs' Nat.zero_lt_one).2 rfl
  have hbe : mb = (ρ l).b := by injection u3 with u3; injection u3
  subst hbe
  rw [q1] at u2
  injection u2 with u2
  injection u2 with e1 e2
  subst e1; subst e2
  have hxv := hxv.trans u7.symm
  have u4 := iV_inj u4
  have hes := mapV_eq q3
  have hg' := ent_get hes j
  rw [hj] at hg'
  obtain ⟨e, he⟩ : ∃ e, es0.toList[j]? = some e := by
    cases h : es0.toList[j]? with
    | none => rw [h] at hg'; cases hg'
    | some e => exact ⟨e, rfl⟩
  rw [he] at hg'
  simp only [Option.map_some, Option.some.injEq, Prod.mk.injEq] at hg'
  have hjl : js.toList[s.length]? = some j := by rw [u4]; simp
  have hjl' : js[s.length]? = some j := by simpa using hjl
  obtain ⟨e2, f1, f2⟩ := u6 _ _ hjl'
  have : e2 = e := by
    have h3 : es0[j]? = some e := by simpa using he
    rw [h3] at f1; exact (Option.some.inj f1).symm
  subst this
  have hss : seen.size = s.length + 1 := by
    have := congrArg List.length u4
    simp at this; omega
  obtain ⟨f3, f4⟩ := Array.getElem?_eq_some_iff.1 f2
  have hsp : seen = seen.pop.push e2.born := by
    apply Array.ext
    · simp; omega
    · intro i h1 h2
      by_cases hi : i < seen.size - 1
      · rw [Array.getElem_push_lt (by simpa using hi)]; simp
      · have : i = s.length := by omega
        subst this
        have : seen.pop.size = s.length := by simp; omega
        simp only [Array.getElem_push, Array.size_pop]
        rw [dif_neg (by omega)]; exact f4
  rw [hsp] at u1
  have hv : (execOp a.eval o).run G.P w = .ok (.value (.tuple #[kv k, .int .i64 v])) w := by
    unfold execOp
    rw [ho]
    simp only [hxv, Sem.run_bind, run_entry_at (P := G.P) w (ρ r).b (ρ l).b clock0 seen.pop es0 clock0 e2 u1 q1 (List.mem_of_getElem? he) q2.2.1, Result.andThen, Sem.run_pure, hg'.1, hg'.2]
  simp only [Oper.wp, hv, Oper.upon_value, hd]
  refine h.go ρ I _ w (hrel.put (by rwa [Nat.blt_eq] at hN) ⟨_, rfl, rfl, fun i hi => ?_⟩)
  have hi : i < 2 := hi
  rcases (by omega : i = 0 ∨ i = 1) with rfl | rfl <;> exact rfl
end
end Go.Proofs.YtpaeomgnmimjoaaDoor
