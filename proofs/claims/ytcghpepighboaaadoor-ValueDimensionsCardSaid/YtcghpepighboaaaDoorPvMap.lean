/- Maps: a map of the call's own as a row; made, read, written. -/
import Derived.Test.YtcghpepighboaaaDoorPvMap0
import Derived.Carry
set_option linter.unusedSimpArgs false
set_option linter.unusedVariables false
namespace Go.Proofs.YtcghpepighboaaaDoor
open Go.MapKept
structure MapT (P : Program) (t : TypeId) {K : Type} (kv : K → Value) where
  kt : TypeId
  et : TypeId
  d : TypeDesc
  ht : P.underlying t = some (.map kt et)
  hk : P.underlying kt = some d
  key : ∀ a, IsKey d (kv a)
  inj : ∀ a b, kv a = kv b → a = b
  zero : ∀ w, (zeroValue et).run P w = .ok (.int .i64 0) w
def mV {K : Type} (kv : K → Value) (l : List (K × Int)) : Value := .tuple ((l.map fun e => Value.tuple #[kv e.1, .int .i64 e.2]).toArray)
def mRow {K : Type} (kv : K → Value) (l : List (K × Int)) : Row := ⟨.mp, false, 1, 1, fun _ _ => .val (mV kv l)⟩
theorem m_eq {K : Type} {kv : K → Value} {l : List (K × Int)} {τ : Nat → Option Nat} : RowEq ((mRow kv l).ren τ) (mRow kv l) := RowEq.refl _
theorem m_cl {K : Type} (kv : K → Value) (l : List (K × Int)) : rowCl (mRow kv l) := fun _ _ _ _ => trivial
theorem mapV_eq {K : Type} {kv : K → Value} {es : Array MapEntry} {l : List (K × Int)} (h : mapV es = mV kv l) : es.toList.map (fun e => (e.key, e.val)) = l.map (fun e => (kv e.1, Value.int .i64 e.2)) := by
  unfold mapV mV at h
  injection h with h
  have h2 := congrArg Array.toList h
  simp only [Array.toList_map] at h2
  have : ∀ (a : List MapEntry) (b : List (K × Int)), a.map (fun e => Value.tuple #[e.key, e.val]) = b.map (fun e => Value.tuple #[kv e.1, .int .i64 e.2]) → a.map (fun e => (e.key, e.val)) = b.map (fun e => (kv e.1, Value.int .i64 e.2)) := by
    intro a
    induction a with
    | nil => intro b hb; cases b <;> simp_all
    | cons x a ih =>
      intro b hb
      cases b with
      | nil => simp at hb
      | cons y b =>
        simp only [List.map_cons, List.cons.injEq, Value.tuple.injEq, Array.mk.injEq] at hb ⊢
        obtain ⟨h1, h2⟩ := hb
        simp at h1
        exact ⟨by rw [h1.1, h1.2], ih b h2⟩
  exact this _ _ h2
section
variable {P : Program} {t : TypeId} {K : Type} [DecidableEq K] {kv : K → Value} (M : MapT P t kv) {es : Array MapEntry} {clock : Nat} {l : List (K × Int)} {w : World} {b : Nat}
omit [DecidableEq K] in
theorem ent_get (h : es.toList.map (fun e => (e.key, e.val)) = l.map (fun e => (kv e.1, Value.int .i64 e.2))) (j : Nat) : (es.toList[j]?).map (fun e => (e.key, e.val)) = (l[j]?).map (fun e => (kv e.1, Value.int .i64 e.2)) := by
  rw [← List.getElem?_map, h, List.getElem?_map]
omit [DecidableEq K] in
theorem ent_nodup (h : es.toList.map (fun e => (e.key, e.val)) = l.map (fun e => (kv e.1, Value.int .i64 e.2))) (hs : Stamped es clock) : (l.map (·.1)).Nodup := by
  have h1 := hs.2.2
  have h2 : es.toList.map (·.key) = (l.map (·.1)).map kv := by
    have := congrArg (List.map Prod.fst) h
    rw [List.map_map, List.map_map] at this
    rw [List.map_map]
    exact this
  rw [h2] at h1
  exact List.Pairwise.of_map kv (fun a b hne he => hne (by rw [he])) h1
include M
omit [DecidableEq K] in
theorem ent_keys (h : es.toList.map (fun e => (e.key, e.val)) = l.map (fun e => (kv e.1, Value.int .i64 e.2))) : ∀ x ∈ es.toList, IsKey M.d x.key := fun x hx => by
  have : (x.key, x.val) ∈ l.map (fun e => (kv e.1, Value.int .i64 e.2)) := by rw [← h]; exact List.mem_map.2 ⟨x, hx, rfl⟩
  obtain ⟨e, _, he⟩ := List.mem_map.1 this
  have : kv e.1 = x.key := congrArg Prod.fst he
  rw [← this]; exact M.key _
omit [DecidableEq K] in
theorem ent_find (h : es.toList.map (fun e => (e.key, e.val)) = l.map (fun e => (kv e.1, Value.int .i64 e.2))) (hs : Stamped es clock) (k : K) :
    (Instr.findNow M.d (kv k) es.toList 0 = some none ∧ (∀ e ∈ l, e.1 ≠ k) ∧ ∀ x ∈ es.toList, x.key ≠ kv k) ∨ ∃ j e v, Instr.findNow M.d (kv k) es.toList 0 = some (some (j, .int .i64 v)) ∧ es.toList[j]? = some e ∧ e.key = kv k ∧ l[j]? = some (k, v) := by
  rcases findNow_spec (M.key k) es.toList 0 (ent_keys M h) with ⟨h1, h2⟩ | ⟨j, e, h1, h2, h3⟩
  · refine .inl ⟨h1, fun e he hk => ?_, h2⟩
    have : (kv e.1, Value.int .i64 e.2) ∈ es.toList.map (fun e => (e.key, e.val)) := by rw [h]; exact List.mem_map.2 ⟨e, he, rfl⟩
    obtain ⟨x, hx, hxe⟩ := List.mem_map.1 this
    exact h2 x hx ((congrArg Prod.fst hxe).trans (by rw [hk]))
  · have h4 := ent_get h j
    rw [h2] at h4
    cases h5 : l[j]? with
    | none => rw [h5] at h4; cases h4
    | some y =>
      rw [h5] at h4
      simp only [Option.map_some, Option.some.injEq, Prod.mk.injEq] at h4
      refine .inr ⟨j, e, y.2, by rw [h1, h4.2, Nat.zero_add], h2, h3, ?_⟩
      have : y.1 = k := M.inj _ _ (by rw [← h4.1, h3])
      rw [h5, ← this]
theorem run_look (hb : w.heap[b]? = some (.map es clock)) (h : es.toList.map (fun e => (e.key, e.val)) = l.map (fun e => (kv e.1, Value.int .i64 e.2))) (hs : Stamped es clock) (k : K) (ok : Bool) :
    (Instr.lookup t (.map (some b)) (kv k) ok).run P w = .ok (if ok then .tuple #[.int .i64 ((mget l k).getD 0), .bool (mget l k).isSome] else .int .i64 ((mget l k).getD 0)) w := by
  have hc := fun em => run_checkKey (P := P) (w := w) M.hk (M.key k) em 9999
  rcases ent_find M h hs k with ⟨h1, h2, _⟩ | ⟨j, e, v, h1, h2, h3, h4⟩
  · rw [mget_none h2]
    cases ok <;> simp [Instr.lookup, run_underlying M.ht, MapKept.run_getObj_map hb, hc, run_findKey M.hk h1, M.zero, Result.andThen]
  · rw [mget_at (ent_nodup h hs) h4]
    cases ok <;> simp [Instr.lookup, run_underlying M.ht, MapKept.run_getObj_map hb, hc, run_findKey M.hk h1, M.zero, Result.andThen]
theorem run_mset (hb : w.heap[b]? = some (.map es clock)) (h : es.toList.map (fun e => (e.key, e.val)) = l.map (fun e => (kv e.1, Value.int .i64 e.2))) (hs : Stamped es clock) (k : K) (v : Int) :
    ∃ es' clock', (Instr.mapUpdate t (.map (some b)) (kv k) (.int .i64 v)).run P w = .ok () { w with heap := w.heap.setIfInBounds b (.map es' clock') } ∧ Stamped es' clock' ∧ es'.toList.map (fun e => (e.key, e.val)) = (mset l k v).map (fun e => (kv e.1, Value.int .i64 e.2)) := by
  have hc := fun em => run_checkKey (P := P) (w := w) M.hk (M.key k) em 9999
  rcases ent_find M h hs k with ⟨h1, h2, h3⟩ | ⟨j, e, v0, h1, h2, h3, h4⟩
  · refine ⟨es.push ⟨kv k, .int .i64 v, clock⟩, clock + 1, ?_, stamped_push hs h3, ?_⟩
    · simp [Instr.mapUpdate, run_underlying M.ht, MapKept.run_getObj_map hb, hc, run_findKey M.hk h1, MapKept.run_setObj_map _ hb, Result.andThen]
    · rw [mset_none h2]; simp [h]
  · have hj : es[j]? = some e := by simpa using h2
    refine ⟨es.modify j (fun e' => { e' with key := kv k, val := .int .i64 v }), clock, ?_, stamped_modify hs _ _ (fun _ _ => rfl) (fun e' _ he' => by rw [hj] at he'; cases he'; exact h3.symm), ?_⟩
    · simp [Instr.mapUpdate, run_underlying M.ht, MapKept.run_getObj_map hb, hc, run_findKey M.hk h1, hj, h3, run_keyThatStays (M.key k), MapKept.run_setObj_map _ hb, Result.andThen]
    · rw [mset_at (ent_nodup h hs) h4, List.map_set, ← h]
      apply List.ext_getElem?
      intro i
      simp only [Array.toList_modify, List.getElem?_map, List.getElem?_modify, List.getElem?_set, List.length_map]
      by_cases e1 : j = i
      · subst e1
        have hjl := (List.getElem?_eq_some_iff.1 h2).1
        simp at hjl
        simp [hj, hjl]
      · simp [e1]
end
section
variable {G : Pg} {N : Nat} {Γ : Fr} {st : PSt} {K : Exit → PSt → Prop} {ops : Array Oper} {o : Oper} {rest : List Oper} {d l : Nat} {x y z : Operand} {t : TypeId} {KT : Type} [DecidableEq KT] {kv : KT → Value} {m : List (KT × Int)}
omit [DecidableEq KT] in
theorem pop_mkmap (kv : KT → Value) (hg : o.guard = none) (hd : o.dst = some d) (hN : Nat.blt d N = true) (ho : o.op = .makeMap t none) {k : Nat} {m' : List Row} (hm : snocM st.mem (mRow kv ([] : List (KT × Int))) 0 (fun k m => some (k, m)) = some (k, m')) (h : POps G N Γ ops rest (PSt.put ⟨st.tm, m'⟩ d (.mref k)) K) : POps G N Γ ops (o :: rest) st K := .mk fun ρ I a w hrel => by
  have hw : Region.wanted o (yielded ops a.tmps) = true := by simp [Region.wanted, hg]
  simp only [wpList, hw, if_true]
  refine .inl ?_
  have hv : (execOp a.eval o).run G.P w = .ok (.value (.map (some w.heap.size))) (w.alloc (.map #[] 0)) := by
    unfold execOp
    rw [ho]
    rfl
  rw [snocM_eq] at hm
  simp only [Option.some.injEq, Prod.mk.injEq, Nat.zero_add] at hm
  obtain ⟨rfl, rfl⟩ := hm
  simp only [Oper.wp, hv, Oper.upon_value, hd]
  have hr := hrel.newMap (mRow kv ([] : List (KT × Int))) rfl (.map #[] 0) (fun _ _ _ e => by cases e) (fun k' ρ' w' _ hb _ _ _ => ⟨⟨_, hb, fun _ _ _ e => by cases e⟩, fun _ => ⟨fun _ => ⟨#[], 0, hb, stamped_empty 0, (show mapV #[] = mV kv [] by unfold mapV mV; simp)⟩, fun hz => by cases hz⟩⟩)
  refine h.go _ I _ _ (hr.put (by rwa [Nat.blt_eq] at hN) ⟨by simp, ?_⟩)
  simp [addLoc]
theorem pop_look (M : MapT G.P t kv) (ok : Bool) (kk : KT) (hg : o.guard = none) (hd : o.dst = some d) (hN : Nat.blt d N = true) (ho : o.op = .lookup t x y ok) (hx : st.ev x = .mref l) (hy : st.ev y = .val (kv kk)) (hr : rowAt st.mem l = some (mRow kv m))
    (h : POps G N Γ ops rest (st.put d (bif ok then .tup 2 (nthP [vi ((mget m kk).getD 0), vb (mget m kk).isSome]) else vi ((mget m kk).getD 0))) K) : POps G N Γ ops (o :: rest) st K := .mk fun ρ I a w hrel => by
  have hw : Region.wanted o (yielded ops a.tmps) = true := by simp [Region.wanted, hg]
  simp only [wpList, hw, if_true]
  refine .inl ?_
  rw [rowAt_get] at hr
  have hxv := ev_rel hrel x
  rw [hx] at hxv
  obtain ⟨_, hxv⟩ := hxv
  have hyv := ev_rel hrel y
  rw [hy] at hyv
  have hyv : a.eval y = kv kk := hyv
  obtain ⟨_, _, hs⟩ := hrel.fr.m.side l _ hr rfl
  obtain ⟨es, clock, q1, q2, q3⟩ := (hs Nat.zero_lt_one).1 rfl
  have hv : (execOp a.eval o).run G.P w = .ok (.value (if ok then .tuple #[.int .i64 ((mget m kk).getD 0), .bool (mget m kk).isSome] else .int .i64 ((mget m kk).getD 0))) w := by
    unfold execOp
    rw [ho]
    simp only [hxv, hyv, Sem.run_bind, run_look M q1 (mapV_eq q3) q2 kk ok, Result.andThen, Sem.run_pure]
  simp only [Oper.wp, hv, Oper.upon_value, hd]
  refine h.go ρ I _ w (hrel.put (by rwa [Nat.blt_eq] at hN) ?_)
  cases ok
  · exact rfl
  · refine ⟨_, rfl, rfl, fun i hi => ?_⟩
    rcases i with _ | _ | i
    · exact rfl
    · exact rfl
    · omega
theorem pop_lookg (M : MapT G.P t kv) (kk : KT) {j : Nat} {want gv : Bool} (hg : o.guard = some (j, want)) (hd : o.dst = some d) (hN : Nat.blt d N = true) (hgv : gval ops st j want = some gv) (ho : o.op = .lookup t x y false) (hx : str (st.ev x) = .mref l) (hxs : gv = true → strP (st.ev x) True) (hy : str (st.ev y) = .val (kv kk)) (hys : gv = true → strP (st.ev y) True) (hr : rowAt st.mem l = some (mRow kv m))
    (h : POps G N Γ ops rest (st.put d (.opt gv (vi ((mget m kk).getD 0)))) K) : POps G N Γ ops (o :: rest) st K := .mk fun ρ I a w hrel => by
  have hw := gval_sound hrel hg hgv
  simp only [wpList, hw]
  cases gv
  · simp only [Bool.false_eq_true, if_false, hd]
    exact h.go ρ I _ w (hrel.put (by rwa [Nat.blt_eq] at hN) ⟨by simp, fun _ => rfl⟩)
  · refine .inl ?_
    rw [rowAt_get] at hr
    have hxv := (str_rel (ev_rel hrel x) (hxs rfl)).1
    rw [hx] at hxv
    obtain ⟨_, hxv⟩ := hxv
    have hyv := (str_rel (ev_rel hrel y) (hys rfl)).1
    rw [hy] at hyv
    have hyv : a.eval y = kv kk := hyv
    obtain ⟨_, _, hs⟩ := hrel.fr.m.side l _ hr rfl
    obtain ⟨es, clock, q1, q2, q3⟩ := (hs Nat.zero_lt_one).1 rfl
    have hv : (execOp a.eval o).run G.P w = .ok (.value (.int .i64 ((mget m kk).getD 0))) w := by
      unfold execOp
      rw [ho]
      simp only [hxv, hyv, Sem.run_bind, run_look M q1 (mapV_eq q3) q2 kk false, Result.andThen, Sem.run_pure]
      rfl
    simp only [Oper.wp, hv, Oper.upon_value, hd]
    exact h.go ρ I _ w (hrel.put (by rwa [Nat.blt_eq] at hN) ⟨fun _ => rfl, by simp⟩)
theorem pop_mset (M : MapT G.P t kv) (kk : KT) (v : Int) (hg : o.guard = none) (hd : o.dst = none) (ho : o.op = .mapUpdate t x y z) (hx : st.ev x = .mref l) (hy : st.ev y = .val (kv kk)) (hz : st.ev z = vi v) (hr : rowAt st.mem l = some (mRow kv m)) (hk : Γ.k0 ≤ l) (hni : noIt st.mem = true) {m' : List Row}
    (hm : setM st.mem l (mRow kv (mset m kk v)) some = some m') (h : POps G N Γ ops rest ⟨st.tm, m'⟩ K) : POps G N Γ ops (o :: rest) st K := .mk fun ρ I a w hrel => by
  have hw : Region.wanted o (yielded ops a.tmps) = true := by simp [Region.wanted, hg]
  simp only [wpList, hw, if_true]
  refine .inl ?_
  rw [rowAt_get] at hr
  rw [setM_eq] at hm
  simp only [Option.some.injEq] at hm
  subst hm
  have hxv := ev_rel hrel x
  rw [hx] at hxv
  obtain ⟨_, hxv⟩ := hxv
  have hyv := ev_rel hrel y
  rw [hy] at hyv
  have hyv : a.eval y = kv kk := hyv
  have hzv := ev_rel hrel z
  rw [hz] at hzv
  have hzv : a.eval z = .int .i64 v := hzv
  obtain ⟨_, _, hs⟩ := hrel.fr.m.side l _ hr rfl
  obtain ⟨es, clock, q1, q2, q3⟩ := (hs Nat.zero_lt_one).1 rfl
  obtain ⟨es', clock', g1, g2, g3⟩ := run_mset M q1 (mapV_eq q3) q2 kk v
  have hv : (execOp a.eval o).run G.P w = .ok .skip { w with heap := w.heap.setIfInBounds (ρ l).b (.map es' clock') } := by
    unfold execOp
    rw [ho]
    simp only [hxv, hyv, hzv, Sem.run_bind, g1, Result.andThen, Sem.run_pure]
  simp only [Oper.wp, hv, Oper.upon_skip, hd, Act.put]
  refine h.go ρ I _ _ (hrel.setMap hr rfl hk hni (mRow kv (mset m kk v)) rfl rfl g2 fun k' ρ' w' => ?_)
  show mapV es' = mV kv (mset m kk v)
  have := congrArg (List.map fun e : Value × Value => Value.tuple #[e.1, e.2]) g3
  rw [List.map_map, List.map_map] at this
  unfold mapV mV
  congr 1
  apply Array.ext'
  rw [Array.toList_map]
  exact this
end
end Go.Proofs.YtcghpepighboaaaDoor
