/- depend: (graph).distances. -/
import Derived.Test.YtcefhgomkehokaaGreatB11
set_option linter.unusedSimpArgs false
set_option linter.unusedVariables false
set_option maxRecDepth 100000
namespace Go.Proofs.YtcefhgomkehokaaGreat
open Go.MapKept
section
variable {G : Pg} {N : Nat} {Γ : Fr} {st : PSt} {K : Exit → PSt → Prop} {ops : Array Oper} {o : Oper} {rest : List Oper} {l : Nat} {KT : Type} [DecidableEq KT] {kv : KT → Value} {t : TypeId} {x y z : Operand} {m : List (KT × Int)}
theorem pop_mins (M : MapT G.P t kv) (kk : KT) (v : Int) (hg : o.guard = none) (hd : o.dst = none) (ho : o.op = .insert t x y z) (hx : st.ev x = .mref l) (hy : st.ev y = .val (kv kk)) (hz : st.ev z = vi v) (hr : rowAt st.mem l = some (mRow kv m)) (hk : Γ.k0 ≤ l) (hni : noIt st.mem = true) {m' : List Row}
    (hm : setM st.mem l (mRow kv (mset m kk v)) some = some m') (h : POps G N Γ ops rest ⟨st.tm, m'⟩ K) : POps G N Γ ops (o :: rest) st K := .mk fun ρ I a w hrel => by
  have hw : Region.wanted o (yielded ops a.tmps) = true := by simp [Region.wanted, hg]
  simp only [wpList, hw, if_true]
  refine .inl ?_
  rw [rowAt_get] at hr
  rw [setM_eq] at hm
  simp only [Option.some.injEq] at hm
  subst hm
  have hxv := ev_rel hrel x
  rw [hx] at hxv
  obtain ⟨_, hxv⟩ := hxv
  have hyv := ev_rel hrel y
  rw [hy] at hyv
  have hyv : a.eval y = kv kk := hyv
  have hzv := ev_rel hrel z
  rw [hz] at hzv
  have hzv : a.eval z = .int .i64 v := hzv
  obtain ⟨_, _, hs⟩ := hrel.fr.m.side l _ hr rfl
  obtain ⟨es, clock, q1, q2, q3⟩ := (hs Nat.zero_lt_one).1 rfl
  obtain ⟨es', clock', g1, g2, g3⟩ := run_mset M q1 (mapV_eq q3) q2 kk v
  have hv : (execOp a.eval o).run G.P w = .ok .skip { w with heap := w.heap.setIfInBounds (ρ l).b (.map es' clock') } := by
    unfold execOp
    rw [ho]
    simp only [hxv, hyv, hzv, Sem.run_bind, g1, Result.andThen, Sem.run_pure]
  simp only [Oper.wp, hv, Oper.upon_skip, hd, Act.put]
  refine h.go ρ I _ _ (hrel.setMap hr rfl hk hni (mRow kv (mset m kk v)) rfl rfl g2 fun k' ρ' w' => ?_)
  show mapV es' = mV kv (mset m kk v)
  have := congrArg (List.map fun e : Value × Value => Value.tuple #[e.1, e.2]) g3
  rw [List.map_map, List.map_map] at this
  unfold mapV mV
  congr 1
  apply Array.ext'
  rw [Array.toList_map]
  exact this
end
def mapIId : MapT G.P 96 kI := ⟨3, 3, _, Tryz.underlying96, Tryz.underlying3, fun _ => rfl, kI_inj, Tryz.zeroValue3⟩
/-! ### the distances to a node -/
theorem nd_len : ∀ {A B : List Int}, A.Nodup → (∀ x, x ∈ A → x ∈ B) → A.length ≤ B.length
  | [], _, _, _ => Nat.zero_le _
  | a :: A, B, h, hs => by
    rw [List.nodup_cons] at h
    have ha := hs a (List.mem_cons_self ..)
    have h1 := nd_len (B := B.erase a) h.2 fun x hx => by
      have hne : x ≠ a := fun e => h.1 (e ▸ hx)
      exact (List.mem_erase_of_ne hne).2 (hs x (List.mem_cons_of_mem _ hx))
    rw [List.length_erase_of_mem ha] at h1
    have := List.length_pos_of_mem ha
    show A.length + 1 ≤ _
    omega
abbrev DS := List (Int × Int) × List Int
def disStep (L : List (Int × List Int)) (nx : Int) (s : DS) (i : Int) : DS := if (mget s.1 i).isSome = false ∧ nx ∈ sget L i then (s.1 ++ [(i, (mget s.1 nx).getD 0 + 1)], s.2 ++ [i]) else s
def disIn (L : List (Int × List Int)) (nx : Int) (s : DS) (N : List Int) : DS := N.foldl (disStep L nx) s
theorem disIn_snoc {L : List (Int × List Int)} {nx : Int} {s : DS} {N : List Int} {i : Int} : disIn L nx s (N ++ [i]) = disStep L nx (disIn L nx s N) i := by
  unfold disIn; rw [List.foldl_append]; rfl
def disF (N : List Int) (L : List (Int × List Int)) : Nat → DS → List (Int × Int)
  | 0, s => s.1
  | f + 1, s => match s.2 with
    | [] => s.1
    | q :: Q => disF N L f (disIn L q (s.1, Q) N)
theorem disF_nil {N : List Int} {L : List (Int × List Int)} {f : Nat} {s : DS} (h : s.2 = []) : disF N L f s = s.1 := by
  cases f with
  | zero => rfl
  | succ f => rw [disF, h]
theorem disF_cons {N : List Int} {L : List (Int × List Int)} {f : Nat} {m : List (Int × Int)} {q : Int} {Q : List Int} : disF N L (f + 1) (m, q :: Q) = disF N L f (disIn L q (m, Q) N) := rfl
theorem mget_app {m : List (Int × Int)} {k : Int} {e : Int × Int} (h : e.1 ≠ k) : mget (m ++ [e]) k = mget m k := by
  induction m with
  | nil => show (if e.1 = k then _ else _) = _; rw [if_neg h]
  | cons a m ih =>
    show (if a.1 = k then _ else mget (m ++ [e]) k) = (if a.1 = k then _ else mget m k)
    rw [ih]
theorem mget_some {m : List (Int × Int)} {k d : Int} (h : mget m k = some d) : (k, d) ∈ m := by
  induction m with
  | nil => cases h
  | cons a m ih =>
    have h : (if a.1 = k then some a.2 else mget m k) = some d := h
    by_cases e : a.1 = k
    · rw [if_pos e] at h
      injection h with h
      rw [← e, ← h]; exact List.mem_cons_self ..
    · rw [if_neg e] at h
      exact List.mem_cons_of_mem _ (ih h)
theorem mget_is {m : List (Int × Int)} {k : Int} (h : k ∈ m.map (·.1)) : ∃ d, mget m k = some d := by
  induction m with
  | nil => cases h
  | cons a m ih =>
    by_cases e : a.1 = k
    · exact ⟨a.2, if_pos e⟩
    · rcases List.mem_cons.1 h with h | h
      · exact absurd h.symm e
      · obtain ⟨d, hd⟩ := ih h
        exact ⟨d, (if_neg e).trans hd⟩
theorem mget_no {m : List (Int × Int)} {k : Int} (h : mget m k = none) : ¬ k ∈ m.map (·.1) := fun hk => by
  obtain ⟨d, hd⟩ := mget_is hk
  rw [h] at hd; cases hd
theorem mget_snoc {m : List (Int × Int)} {k d : Int} (h : mget m k = none) : mget (m ++ [(k, d)]) k = some d := by
  induction m with
  | nil => show (if k = k then _ else _) = _; rw [if_pos rfl]
  | cons a m ih =>
    have h : (if a.1 = k then some a.2 else mget m k) = none := h
    by_cases e : a.1 = k
    · rw [if_pos e] at h; cases h
    · rw [if_neg e] at h
      exact (if_neg e).trans (ih h)
structure InvD (N : List Int) (L : List (Int × List Int)) (to : Int) (p : Nat) (s : DS) : Prop where
  ks : ∃ P : List Int, P.length = p ∧ s.1.map (·.1) = P ++ s.2
  nd : (s.1.map (·.1)).Nodup
  sub : ∀ e, e ∈ s.1 → e.1 = to ∨ e.1 ∈ N
  val : ∀ e, e ∈ s.1 → 0 ≤ e.2 ∧ e.2 ≤ s.1.length
  zero : ∀ e, e ∈ s.1 → e.2 = 0 → e.1 = to
  pos : ∀ e, e ∈ s.1 → 0 < e.2 → ∃ y, y ∈ sget L e.1 ∧ mget s.1 y = some (e.2 - 1)
theorem InvD.len {N : List Int} {L : List (Int × List Int)} {to : Int} {p : Nat} {s : DS} (h : InvD N L to p s) : s.1.length ≤ N.length + 1 := by
  have := nd_len (B := to :: N) h.nd fun x hx => by
    obtain ⟨e, he, rfl⟩ := List.mem_map.1 hx
    rcases h.sub e he with h1 | h1
    · rw [h1]; exact List.mem_cons_self ..
    · exact List.mem_cons_of_mem _ h1
  simpa using this
theorem InvD.len2 {N : List Int} {L : List (Int × List Int)} {to : Int} {p : Nat} {s : DS} (h : InvD N L to p s) : s.1.length = p + s.2.length := by
  obtain ⟨P, h1, h2⟩ := h.ks
  have := congrArg List.length h2
  rw [List.length_map, List.length_append] at this
  omega
theorem InvD.step {N : List Int} {L : List (Int × List Int)} {to : Int} {p : Nat} {s : DS} {nx i : Int} (h : InvD N L to p s) (hi : i ∈ N) (hn : nx ∈ s.1.map (·.1)) : InvD N L to p (disStep L nx s i) := by
  unfold disStep
  by_cases hc : (mget s.1 i).isSome = false ∧ nx ∈ sget L i
  · rw [if_pos hc]
    have hno : mget s.1 i = none := by
      cases hm : mget s.1 i with
      | none => rfl
      | some d => rw [hm] at hc; cases hc.1
    obtain ⟨d, hd⟩ := mget_is hn
    have hdm := h.val _ (mget_some hd)
    have hkey : ∀ y, y ∈ s.1.map (·.1) → i ≠ y := fun y hy e => mget_no hno (e ▸ hy)
    rw [hd]
    show InvD N L to p (s.1 ++ [(i, d + 1)], s.2 ++ [i])
    obtain ⟨P, hP1, hP2⟩ := h.ks
    refine ⟨⟨P, hP1, ?_⟩, ?_, ?_, ?_, ?_, ?_⟩
    · rw [List.map_append, hP2, List.append_assoc]; rfl
    · rw [List.map_append, List.nodup_append]
      refine ⟨h.nd, by simp, fun a ha b hb => ?_⟩
      have : b = i := by simpa using hb
      subst this
      exact fun e => hkey a ha e.symm
    · intro e he
      rcases List.mem_append.1 he with he | he
      · exact h.sub e he
      · rw [List.mem_singleton.1 he]; exact .inr hi
    · intro e he
      rw [List.length_append]
      rcases List.mem_append.1 he with he | he
      · have := h.val e he
        refine ⟨this.1, ?_⟩
        show e.2 ≤ ((s.1.length + 1 : Nat) : Int)
        omega
      · rw [List.mem_singleton.1 he]
        have h2 : d ≤ s.1.length := hdm.2
        have h3 : 0 ≤ d := hdm.1
        refine ⟨by show 0 ≤ d + 1; omega, ?_⟩
        show d + 1 ≤ ((s.1.length + 1 : Nat) : Int)
        omega
    · intro e he h0
      rcases List.mem_append.1 he with he | he
      · exact h.zero e he h0
      · rw [List.mem_singleton.1 he] at h0
        have h3 : 0 ≤ d := hdm.1
        have : d + 1 = 0 := h0
        omega
    · intro e he h0
      rcases List.mem_append.1 he with he | he
      · obtain ⟨y, hy1, hy2⟩ := h.pos e he h0
        exact ⟨y, hy1, by rw [mget_app (hkey y (List.mem_map.2 ⟨_, mget_some hy2, rfl⟩))]; exact hy2⟩
      · rw [List.mem_singleton.1 he]
        exact ⟨nx, hc.2, by rw [mget_app (hkey nx hn)]; show _ = some (d + 1 - 1); rw [hd, show d + 1 - 1 = d by omega]⟩
  · rw [if_neg hc]; exact h
theorem disStep_sub {L : List (Int × List Int)} {s : DS} {nx i k : Int} (h : k ∈ s.1.map (·.1)) : k ∈ (disStep L nx s i).1.map (·.1) := by
  unfold disStep
  split
  · rw [List.map_append]; exact List.mem_append_left _ h
  · exact h
end Go.Proofs.YtcefhgomkehokaaGreat
namespace Go.Proofs.YtcefhgomkehokaaGreat
open Go.MapKept
theorem InvD.pop {N : List Int} {L : List (Int × List Int)} {to : Int} {p : Nat} {m : List (Int × Int)} {q : Int} {Q : List Int} (h : InvD N L to p (m, q :: Q)) : InvD N L to (p + 1) (m, Q) ∧ q ∈ m.map (·.1) := by
  obtain ⟨P, h1, h2⟩ := h.ks
  have h2 : m.map (·.1) = P ++ q :: Q := h2
  refine ⟨⟨⟨P ++ [q], by simp [h1], ?_⟩, h.nd, h.sub, h.val, h.zero, h.pos⟩, by rw [h2]; simp⟩
  show m.map (·.1) = P ++ [q] ++ Q
  rw [h2, List.append_assoc]; rfl
theorem InvD.fold {N : List Int} {L : List (Int × List Int)} {to : Int} {p : Nat} {nx : Int} : ∀ (A : List Int) (s : DS), InvD N L to p s → nx ∈ s.1.map (·.1) → (∀ x, x ∈ A → x ∈ N) → InvD N L to p (disIn L nx s A) ∧ nx ∈ (disIn L nx s A).1.map (·.1)
  | [], s, h, hn, _ => ⟨h, hn⟩
  | a :: A, s, h, hn, hA => InvD.fold A (disStep L nx s a) (h.step (hA a (List.mem_cons_self ..)) hn) (disStep_sub hn) (fun x hx => hA x (List.mem_cons_of_mem _ hx))
theorem inv0 (N : List Int) (L : List (Int × List Int)) (to : Int) : InvD N L to 0 ([(to, 0)], [to]) := ⟨⟨[], rfl, rfl⟩, List.nodup_cons.2 ⟨List.not_mem_nil, List.nodup_nil⟩, fun e he => by rw [List.mem_singleton.1 he]; exact .inl rfl, fun e he => by rw [List.mem_singleton.1 he]; exact ⟨Int.le_refl _, Int.natCast_nonneg _⟩, fun e he _ => by rw [List.mem_singleton.1 he], fun e he h0 => by rw [List.mem_singleton.1 he] at h0; exact absurd h0 (Int.lt_irrefl _)⟩
theorem disF_inv {N : List Int} {L : List (Int × List Int)} {to : Int} : ∀ (f p : Nat) (s : DS), InvD N L to p s → N.length + 2 ≤ p + f → ∃ p', InvD N L to p' (disF N L f s, [])
  | 0, p, s, h, hf => by have := h.len; have := h.len2; omega
  | f + 1, p, (m, []), h, hf => ⟨p, h⟩
  | f + 1, p, (m, q :: Q), h, hf => by
    obtain ⟨h1, h2⟩ := h.pop
    exact disF_inv f (p + 1) _ (InvD.fold N _ h1 h2 (fun x hx => hx)).1 (by omega)
def disS (N : List Int) (L : List (Int × List Int)) (to : Int) : List (Int × Int) := disF N L (N.length + 2) ([(to, 0)], [to])
theorem disS_inv (N : List Int) (L : List (Int × List Int)) (to : Int) : ∃ p, InvD N L to p (disS N L to, []) := disF_inv _ 0 _ (inv0 N L to) (by omega)
theorem app_q {τ : Nat → Option Nat} {o m : Nat} {g : Nat → Int} {Q : List Int} {y : Int} (hQ : Q.length = m) (hg : ∀ a, a < m → g (o + a) = lF 0 Q a) : RowEq (Row.ren τ ⟨.own, false, m + 1, 1, appF m (fun x => tI g (o + x)) (fun x b => nthP [vi y] ((0 + x) * 1 + b))⟩) (iRow (m + 1) (lF 0 (Q ++ [y]))) := by
  refine i_eq (Nat.le_refl _) fun a ha => ?_
  by_cases e : a < m
  · rw [appF_lt _ _ e]
    show vi (g (o + a)) = vi _
    rw [hg a e, lF_lt (by omega)]
  · rw [appF_ge _ _ (by omega)]
    obtain rfl : a = m := by omega
    rw [show (0 + (a - a)) * 1 + 0 = 0 by omega]
    show vi y = vi _
    have := lF_at (d := (0 : Int)) (y := y) (l := Q) (r := [])
    rw [hQ] at this
    rw [this]
set_option maxHeartbeats 8000000 in
theorem distances_r (N : List Int) (L : List (Int × List Int)) (to : Int) (hN : N.length ≤ 1000000) (hL : ∀ e, e ∈ L → e.2.length ≤ 1000000) : RowsC G.P 64 [] [vGr N L, vi to] (fun r rows => r = .mref 0 ∧ rows = [mRow kI (disS N L to)]) := by
  refine rows_of (G := G.toPg) (fn := Tryz.f64) Tryz.func64 rfl rfl rfl ?_; intro Γ hk
  repeat' (first | refine gg ?_ | exact trivial | with_reducible refine wA ?_ ?_ | refine Y2.mk ?_ ?_ | refine gh ?_ | exact qq | fail)
  refine pop_mkmap kI rfl rfl rfl rfl rfl ?_
  repeat' (first | refine gg ?_ | exact trivial | with_reducible refine wA ?_ ?_ | refine Y2.mk ?_ ?_ | refine gh ?_ | exact qq | fail)
  refine pop_mins mapIId to 0 rfl rfl rfl rfl rfl rfl rfl (by rw [hk]; exact Nat.zero_le _) rfl rfl ?_
  repeat' (first | refine gg ?_ | exact trivial | with_reducible refine wA ?_ ?_ | refine Y2.mk ?_ ?_ | refine gh ?_ | exact qq | fail)
  refine pcan (can_rowsv [0, 1, 2] (tm := [(2, .ptr 0 0 0), (5, .mref 1), (6, .lsl 2 0 1)]) (rows := [cG (sV N) (.vmap (cS L)), mRow kI [(to, 0)], iRow 1 (lF 0 [to])]) (k0_sel hk rfl) rfl (.cons rfl (cG_eq (PEq.refl _) (PEq.refl _)) (.cons rfl m_eq (.cons rfl (i_eq (Nat.le_refl _) fun a ha => ?_) .nil))) tmq) ?_
  · obtain rfl : a = 0 := by omega
    rfl
  refine ploop (fun q st => ∃ (p o M k : Nat) (g : Nat → Int) (m : List (Int × Int)) (Q : List Int), Q.length = k ∧ InvD N L to p (m, Q) ∧ disS N L to = disF N L (N.length + 2 - p) (m, Q) ∧ o + k ≤ M ∧ (∀ a, a < k → g (o + a) = lF 0 Q a) ∧ q = N.length + 2 - p ∧ st = ⟨[(2, .ptr 0 0 0), (5, .mref 1), (6, .lsl 2 o k)], [cG (sV N) (.vmap (cS L)), mRow kI m, iRow M g]⟩) (N.length + 2) ⟨0, 0, 1, 1, lF 0 [to], [(to, 0)], [to], rfl, inv0 N L to, rfl, Nat.le_refl _, fun a ha => by rw [Nat.zero_add], rfl, rfl⟩ ?_
  rintro _ _ ⟨p, o, M, k, g, m, Q, hQ, hI, hD, hM, hg, rfl, rfl⟩
  have hlen := hI.len
  have hlen2 := hI.len2
  cases Q with
  | nil =>
    obtain rfl : k = 0 := hQ.symm
    repeat' (first | refine gg ?_ | exact trivial | with_reducible refine wA ?_ ?_ | refine Y2.mk ?_ ?_ | refine gh ?_ | exact qq | fail)
    refine xdone ?_
    refine kretr (can_rowsv [1] (tm := [(4, .mref 0)]) (rows := [mRow kI m]) (k0_sel hk rfl) rfl (.cons rfl m_eq .nil) tmq) rfl ⟨trivial, trivial⟩ rfl ⟨rfl, ?_⟩
    rw [hD, disF_nil rfl]
  | cons nx Q =>
    obtain ⟨n, rfl⟩ : ∃ n, k = n + 1 := ⟨Q.length, hQ.symm⟩
    have hQ : Q.length = n := by simpa using hQ
    have hn0 : g o = nx := hg 0 (by omega)
    obtain ⟨hI2, hnk⟩ := hI.pop
    repeat' (first | refine gg ?_ | exact trivial | with_reducible refine wA ?_ ?_ | refine Y2.mk ?_ ?_ | refine gh ?_ | exact qq | fail)
    refine pcond rfl ?_ ?_ <;> intro hc
    · repeat' (first | refine gg ?_ | exact trivial | with_reducible refine wA ?_ ?_ | refine Y2.mk ?_ ?_ | (show o + 0 < M; omega) | exact ⟨by decide, by omega⟩ | exact ⟨trivial, trivial, by decide, by omega, Int.le_refl _⟩ | refine gh ?_ | exact qq | fail)
      refine pcan (can_rowsv [0, 1, 2] (tm := [(2, .ptr 0 0 0), (5, .mref 1), (6, .lsl 2 (o + 1) n), (7, vi nx), (26, sV N), (27, vi N.length), (28, vi ((0 : Nat) : Int))]) (rows := [cG (sV N) (.vmap (cS L)), mRow kI m, iRow M g]) (k0_sel hk rfl) rfl (.cons rfl (cG_eq (PEq.refl _) (PEq.refl _)) (.cons rfl m_eq (.cons rfl (RowEq.cl (i_cl _ _)) .nil))) (by exact ⟨PEq.refl _, PEq.refl _, PEq.of (by show PV.lsl 2 (o + 1) _ = _; congr 1; omega), PEq.of (by show vi (g (o + 0)) = vi nx; rw [Nat.add_zero, hn0]), PEq.refl _, PEq.refl _, PEq.refl _, trivial⟩)) ?_
      refine ploop (fun q st => ∃ (i o k M : Nat) (g : Nat → Int) (s : DS), i ≤ N.length ∧ s = disIn L nx (m, Q) (N.take i) ∧ s.2.length = k ∧ o + k ≤ M ∧ (∀ a, a < k → g (o + a) = lF 0 s.2 a) ∧ q = N.length - i ∧ st = ⟨[(2, .ptr 0 0 0), (5, .mref 1), (6, .lsl 2 o k), (7, vi nx), (26, sV N), (27, vi N.length), (28, vi i)], [cG (sV N) (.vmap (cS L)), mRow kI s.1, iRow M g]⟩) N.length ⟨0, o + 1, n, M, g, (m, Q), Nat.zero_le _, by rw [List.take_zero]; rfl, hQ, by omega, fun a ha => by rw [show o + 1 + a = o + (a + 1) by omega, hg (a + 1) (by omega)]; rfl, rfl, rfl⟩ ?_
      rintro _ _ ⟨i, o2, k, M2, g2, s, hi, hs, hk2, hM2, hg2, rfl, rfl⟩
      obtain ⟨hJ, hJn⟩ := InvD.fold (N.take i) (m, Q) hI2 hnk (fun x hx => List.mem_of_mem_take hx)
      rw [← hs] at hJ hJn
      have hlenJ := hJ.len
      have hlenJ2 := hJ.len2
      have hw1 : IntKind.i64.wrap ((i : Int) + 1) = ((i + 1 : Nat) : Int) := w64 (by omega) (by omega)
      repeat' (first | refine gg ?_ | exact trivial | with_reducible refine wA ?_ ?_ | refine Y2.mk ?_ ?_ | refine gh ?_ | exact qq | fail)
      refine pcond rfl ?_ ?_ <;> intro hc2
      · have hc2 : i < N.length := by have := of_decide_eq_true hc2; omega
        have hT : N.take (i + 1) = N.take i ++ [lF 0 N i] := by
          unfold lF
          rw [List.take_add_one, List.getD_eq_getElem?_getD, List.getElem?_eq_getElem (by omega)]; rfl
        have hS : disIn L nx (m, Q) (N.take (i + 1)) = disStep L nx s (lF 0 N i) := by rw [hT, disIn_snoc, ← hs]
        have cn := contains_c (sget L (lF 0 N i)) nx (Nat.le_trans (sget_len (N := N) hL _) (by decide))
        have hxN : lF 0 N i ∈ N := by rw [lF_get' hc2]; exact List.getElem_mem hc2
        repeat' (first | refine gg ?_ | exact trivial | with_reducible refine wA ?_ ?_ | refine Y2.mk ?_ ?_ | refine gh ?_ | exact qq | fail)
        refine pop_look mapIId true (lF 0 N i) rfl rfl rfl rfl rfl rfl rfl ?_
        cases hm : mget s.1 (lF 0 N i) with
        | some d =>
          have hS2 : disStep L nx s (lF 0 N i) = s := by unfold disStep; rw [hm]; rfl
          repeat' (first | refine gg ?_ | exact trivial | with_reducible refine wA ?_ ?_ | refine Y2.mk ?_ ?_ | (refine pop_gfalse rfl rfl rfl rfl ?_) | exact (fun hh => by cases hh) | refine gh ?_ | exact qq | fail)
          rw [hw1]
          exact kloop_next (st' := ⟨[(2, .ptr 0 0 0), (5, .mref 1), (6, .lsl 2 o2 k), (7, vi nx), (26, sV N), (27, vi N.length), (28, vi ((i + 1 : Nat) : Int))], [cG (sV N) (.vmap (cS L)), mRow kI s.1, iRow M2 g2]⟩) (N.length - (i + 1)) (can_rowsv [0, 1, 2] (k0_sel hk rfl) rfl (.cons rfl (cG_eq (PEq.refl _) (PEq.refl _)) (.cons rfl m_eq (.cons rfl (RowEq.cl (i_cl _ _)) .nil))) tmq) (by omega) ⟨i + 1, o2, k, M2, g2, s, by omega, by rw [hS, hS2], hk2, hM2, hg2, rfl, rfl⟩
        | none =>
          by_cases hx : nx ∈ sget L (lF 0 N i)
          · rw [decide_eq_true hx] at cn
            obtain ⟨d, hd⟩ := mget_is hJn
            have hdv := hJ.val _ (mget_some hd)
            have hd1 : 0 ≤ d := hdv.1
            have hd2 : d ≤ s.1.length := hdv.2
            have hw2 : IntKind.i64.wrap (d + 1) = d + 1 := w64 (by omega) (by omega)
            have hS2 : disStep L nx s (lF 0 N i) = (s.1 ++ [(lF 0 N i, d + 1)], s.2 ++ [lF 0 N i]) := by unfold disStep; rw [hm, hd, if_pos ⟨rfl, hx⟩]; rfl
            have hkey : ∀ e, e ∈ s.1 → e.1 ≠ lF 0 N i := fun e he h2 => mget_no hm (List.mem_map.2 ⟨e, he, h2⟩)
            repeat' (first | refine gg ?_ | exact trivial | with_reducible refine wA ?_ ?_ | refine Y2.mk ?_ ?_ | refine gh ?_ | exact qq | fail)
            refine pop_opt 42 rfl rfl ?_
            refine pop_opt 43 rfl rfl ?_
            refine pop_unguard rfl rfl ?_
            refine pop_lookvS mapIS (lF 0 N i) rfl rfl rfl rfl rfl rfl ?_
            repeat' (first | refine gg ?_ | exact trivial | with_reducible refine wA ?_ ?_ | refine Y2.mk ?_ ?_ | (refine pop_unguard rfl rfl ?_) | refine gh ?_ | exact qq | fail)
            refine pop_opt 45 rfl rfl ?_
            repeat' (first | refine gg ?_ | exact trivial | with_reducible refine wA ?_ ?_ | refine Y2.mk ?_ ?_ | refine zz cn ?_ | refine gh ?_ | exact qq | fail)
            refine pop_look mapIId false nx rfl rfl rfl rfl rfl rfl rfl ?_
            rw [hd, show (some d : Option Int).getD 0 = d from rfl]
            repeat' (first | refine gg ?_ | exact trivial | with_reducible refine wA ?_ ?_ | refine Y2.mk ?_ ?_ | refine gh ?_ | exact qq | fail)
            rw [hw2]
            refine pop_mset mapIId (lF 0 N i) (d + 1) rfl rfl rfl rfl rfl rfl rfl (by rw [hk]; exact Nat.zero_le _) rfl rfl ?_
            rw [mset_none hkey]
            have hkb : k ≤ 1000000 := by omega
            repeat' (first | refine gg ?_ | exact trivial | with_reducible refine wA ?_ ?_ | refine Y2.mk ?_ ?_ | exact ⟨Nat.le_refl _, (by rw [hk]; exact Nat.le_of_ble_eq_true rfl), hM2, (show (_ : Nat) * 8 ≤ 140737488355328 from by omega), (show (_ : Nat) ≤ 9223372036854775807 from by omega)⟩ | refine gh ?_ | exact qq | fail)
            rw [hw1]
            exact kloop_next (st' := ⟨[(2, .ptr 0 0 0), (5, .mref 1), (6, .lsl 2 0 (k + 1)), (7, vi nx), (26, sV N), (27, vi N.length), (28, vi ((i + 1 : Nat) : Int))], [cG (sV N) (.vmap (cS L)), mRow kI (s.1 ++ [(lF 0 N i, d + 1)]), iRow (k + 1) (lF 0 (s.2 ++ [lF 0 N i]))]⟩) (N.length - (i + 1)) (can_rowsv [0, 1, 4] (k0_sel hk rfl) rfl (.cons rfl (cG_eq (PEq.refl _) (PEq.refl _)) (.cons rfl m_eq (.cons rfl (app_q hk2 hg2) .nil))) tmq) (by omega) ⟨i + 1, 0, k + 1, k + 1, lF 0 (s.2 ++ [lF 0 N i]), (s.1 ++ [(lF 0 N i, d + 1)], s.2 ++ [lF 0 N i]), by omega, by rw [hS, hS2], by show (s.2 ++ [lF 0 N i]).length = k + 1; rw [List.length_append, hk2]; rfl, by omega, fun a ha => by rw [Nat.zero_add], rfl, rfl⟩
          · rw [decide_eq_false hx] at cn
            have hS2 : disStep L nx s (lF 0 N i) = s := by unfold disStep; rw [if_neg (fun hh => hx hh.2)]
            repeat' (first | refine gg ?_ | exact trivial | with_reducible refine wA ?_ ?_ | refine Y2.mk ?_ ?_ | refine gh ?_ | exact qq | fail)
            refine pop_opt 42 rfl rfl ?_
            refine pop_opt 43 rfl rfl ?_
            refine pop_unguard rfl rfl ?_
            refine pop_lookvS mapIS (lF 0 N i) rfl rfl rfl rfl rfl rfl ?_
            repeat' (first | refine gg ?_ | exact trivial | with_reducible refine wA ?_ ?_ | refine Y2.mk ?_ ?_ | (refine pop_unguard rfl rfl ?_) | refine gh ?_ | exact qq | fail)
            refine pop_opt 45 rfl rfl ?_
            repeat' (first | refine gg ?_ | exact trivial | with_reducible refine wA ?_ ?_ | refine Y2.mk ?_ ?_ | refine zz cn ?_ | refine gh ?_ | exact qq | fail)
            rw [hw1]
            exact kloop_next (st' := ⟨[(2, .ptr 0 0 0), (5, .mref 1), (6, .lsl 2 o2 k), (7, vi nx), (26, sV N), (27, vi N.length), (28, vi ((i + 1 : Nat) : Int))], [cG (sV N) (.vmap (cS L)), mRow kI s.1, iRow M2 g2]⟩) (N.length - (i + 1)) (can_rowsv [0, 1, 2] (k0_sel hk rfl) rfl (.cons rfl (cG_eq (PEq.refl _) (PEq.refl _)) (.cons rfl m_eq (.cons rfl (RowEq.cl (i_cl _ _)) .nil))) tmq) (by omega) ⟨i + 1, o2, k, M2, g2, s, by omega, by rw [hS, hS2], hk2, hM2, hg2, rfl, rfl⟩
      · have hil : i = N.length := by have := of_decide_eq_false hc2; omega
        subst hil
        rw [List.take_length] at hs
        repeat' (first | refine gg ?_ | exact trivial | with_reducible refine wA ?_ ?_ | refine Y2.mk ?_ ?_ | refine gh ?_ | exact qq | fail)
        exact kloop_next (st' := ⟨[(2, .ptr 0 0 0), (5, .mref 1), (6, .lsl 2 o2 k)], [cG (sV N) (.vmap (cS L)), mRow kI s.1, iRow M2 g2]⟩) (N.length + 2 - (p + 1)) (can_rowsv [0, 1, 2] (k0_sel hk rfl) rfl (.cons rfl (cG_eq (PEq.refl _) (PEq.refl _)) (.cons rfl m_eq (.cons rfl (RowEq.cl (i_cl _ _)) .nil))) tmq) (by have : m.length = p + (Q.length + 1) := hlen2; have : m.length ≤ N.length + 1 := hlen; omega) ⟨p + 1, o2, M2, k, g2, s.1, s.2, hk2, hJ, by
          rw [hD, show N.length + 2 - p = N.length + 2 - (p + 1) + 1 by (have : m.length = p + (Q.length + 1) := hlen2; have : m.length ≤ N.length + 1 := hlen; omega), disF_cons, ← hs], hM2, hg2, rfl, rfl⟩
    · have := of_decide_eq_false hc; omega
end Go.Proofs.YtcefhgomkehokaaGreat
namespace Go.Proofs.YtcefhgomkehokaaGreat
open Go.MapKept
def nxtG (m : List (Int × Int)) (b i : Int) : Int := match mget m i with
  | none => b
  | some d => if b < 0 ∨ d < (mget m b).getD 0 then i else b
def nxtF (m : List (Int × Int)) (l : List Int) : Int := l.foldl (nxtG m) (-1)
theorem nxtF_snoc {m : List (Int × Int)} {l : List Int} {i : Int} : nxtF m (l ++ [i]) = nxtG m (nxtF m l) i := by
  unfold nxtF; rw [List.foldl_append]; rfl
def NxtOk (m : List (Int × Int)) (l : List Int) (b : Int) : Prop := (b = -1 ∧ ∀ i, i ∈ l → mget m i = none) ∨ (0 ≤ b ∧ b ∈ l ∧ ∃ d, mget m b = some d ∧ ∀ i, i ∈ l → ∀ d', mget m i = some d' → d ≤ d')
theorem nxtF_ok (m : List (Int × Int)) (l : List Int) (h0 : ∀ i, i ∈ l → 0 ≤ i) : ∀ j, NxtOk m (l.take j) (nxtF m (l.take j))
  | 0 => .inl ⟨rfl, fun i hi => by rw [List.take_zero] at hi; exact absurd hi List.not_mem_nil⟩
  | j + 1 => by
    have ih := nxtF_ok m l h0 j
    by_cases hj : j < l.length
    · have hT : l.take (j + 1) = l.take j ++ [l[j]] := by rw [List.take_add_one, List.getElem?_eq_getElem hj]; rfl
      rw [hT, nxtF_snoc]
      have hx := h0 l[j] (List.getElem_mem hj)
      generalize l[j] = x at *
      unfold nxtG
      cases hm : mget m x with
      | none =>
        show NxtOk _ _ (nxtF m (l.take j))
        rcases ih with ⟨e, ih⟩ | ⟨e0, e1, d, e2, e3⟩
        · refine .inl ⟨e, fun i hi => ?_⟩
          rcases List.mem_append.1 hi with hi | hi
          · exact ih i hi
          · rw [List.mem_singleton.1 hi]; exact hm
        · refine .inr ⟨e0, List.mem_append_left _ e1, d, e2, fun i hi d' hd' => ?_⟩
          rcases List.mem_append.1 hi with hi | hi
          · exact e3 i hi d' hd'
          · rw [List.mem_singleton.1 hi, hm] at hd'; cases hd'
      | some dx =>
        show NxtOk _ _ (if _ then x else nxtF m (l.take j))
        by_cases hc : nxtF m (l.take j) < 0 ∨ dx < (mget m (nxtF m (l.take j))).getD 0
        · rw [if_pos hc]
          refine .inr ⟨hx, List.mem_append_right _ (List.mem_singleton.2 rfl), dx, hm, fun i hi d' hd' => ?_⟩
          rcases List.mem_append.1 hi with hi | hi
          · rcases ih with ⟨e, ih⟩ | ⟨e0, e1, d, e2, e3⟩
            · rw [ih i hi] at hd'; cases hd'
            · rcases hc with hc | hc
              · omega
              · rw [e2] at hc
                have hc : dx < d := hc
                have := e3 i hi d' hd'
                omega
          · rw [List.mem_singleton.1 hi, hm] at hd'
            injection hd' with hd'
            omega
        · rw [if_neg hc]
          rcases ih with ⟨e, ih⟩ | ⟨e0, e1, d, e2, e3⟩
          · exact absurd (.inl (by omega)) hc
          · refine .inr ⟨e0, List.mem_append_left _ e1, d, e2, fun i hi d' hd' => ?_⟩
            rcases List.mem_append.1 hi with hi | hi
            · exact e3 i hi d' hd'
            · rw [List.mem_singleton.1 hi, hm] at hd'
              injection hd' with hd'
              rw [e2] at hc
              have : ¬ dx < d := fun h => hc (.inr h)
              omega
    · rw [List.take_of_length_le (by omega)] at ih ⊢
      exact ih
def cycF (m : List (Int × Int)) (L : List (Int × List Int)) (start : Int) : Nat → Int → List Int → List Int
  | 0, _, _ => []
  | f + 1, at_, out => if nxtF m (sget L at_) < 0 then [] else if nxtF m (sget L at_) = start then out ++ [at_] else cycF m L start f (nxtF m (sget L at_)) (out ++ [at_])
def cycR (c : List Int) : PV := match c with
  | [] => .val (.slice none 0 0)
  | a :: l => sV (a :: l)
theorem cycR_snoc {l : List Int} {a : Int} : cycR (l ++ [a]) = sV (l ++ [a]) := by
  cases l <;> rfl
def cycS (N : List Int) (L : List (Int × List Int)) (start : Int) : List Int := cycF (disS N L start) L start (N.length + 4) start []
set_option maxHeartbeats 8000000 in
theorem cycle_c (N : List Int) (L : List (Int × List Int)) (start : Int) (hN : N.length ≤ 900000) (hL : ∀ e, e ∈ L → e.2.length ≤ 1000000) (hL0 : ∀ x y, y ∈ sget L x → 0 ≤ y) : PureC G.P 38 [vGr N L, vi start] (fun r => r = cycR (cycS N L start)) := by
  obtain ⟨p0, hI⟩ := disS_inv N L start
  have hlen := hI.len
  have hzero : ∀ x, mget (disS N L start) x = some 0 → x = start := fun x hx => hI.zero _ (mget_some hx) rfl
  have hpos : ∀ x d, mget (disS N L start) x = some d → 0 ≤ d ∧ d ≤ N.length + 1 ∧ (0 < d → ∃ y, y ∈ sget L x ∧ mget (disS N L start) y = some (d - 1)) := fun x d hx => by
    have h1 := hI.val _ (mget_some hx)
    have h2 : (disS N L start).length ≤ N.length + 1 := hlen
    have h3 : 0 ≤ d := h1.1
    have h4 : d ≤ (disS N L start).length := h1.2
    exact ⟨h3, by omega, fun h => hI.pos _ (mget_some hx) h⟩
  have dr := distances_r N L start (by omega) hL
  have hS : cycS N L start = cycF (disS N L start) L start (N.length + 4) start [] := rfl
  generalize disS N L start = m at *
  generalize cycS N L start = cyc at *
  refine pure_of (G := G.toPg) (fn := Tryz.f38) Tryz.func38 rfl rfl rfl ?_; intro Γ hk
  repeat' (first | refine gg ?_ | exact trivial | with_reducible refine wA ?_ ?_ | refine Y2.mk ?_ ?_ | refine gh ?_ | exact qq | fail)
  refine pop_rowsc [] rfl rfl rfl rfl rfl rfl .nil dr (by exact ⟨PEq.cl (vGr N L) (clA ⟨trivial, trivial, trivial⟩), PEq.refl _, trivial⟩) ?_
  rintro r rows ⟨rfl, rfl⟩
  refine ⟨_, _, rfl, ⟨m_cl _ _, trivial⟩, rfl, ?_⟩
  repeat' (first | refine gg ?_ | exact trivial | with_reducible refine wA ?_ ?_ | refine Y2.mk ?_ ?_ | refine gh ?_ | exact qq | fail)
  refine pcan ((can_virt (vRow c1 1 0 (lF 0 [])) rfl).trans (can_rowsv [0, 1, 2] (tm := [(1, vi start), (2, .ptr 0 0 0), (5, .mref 1), (6, slP 0 2), (7, vi start)]) (rows := [cG (sV N) (.vmap (cS L)), mRow kI m, vRow c1 1 0 (lF 0 [])]) (k0_sel hk rfl) rfl (.cons rfl (cG_eq (PEq.refl _) (PEq.refl _)) (.cons rfl m_eq (.cons rfl (RowEq.cl (v_cl c1_cl _ _ _)) .nil))) tmq)) ?_
  refine ploop (fun q st => ∃ (k f : Nat) (at_ : Int) (out : List Int), out.length = k ∧ k + q ≤ N.length + 3 ∧ q < f ∧ cyc = cycF m L start f at_ out ∧ ((out = [] ∧ at_ = start ∧ q = N.length + 3) ∨ ∃ d, mget m at_ = some d ∧ 0 < d ∧ q = d.toNat) ∧ st = ⟨[(1, vi start), (2, .ptr 0 0 0), (5, .mref 1), (6, slP k 2), (7, vi at_)], [cG (sV N) (.vmap (cS L)), mRow kI m, vRow c1 1 k (lF 0 out)]⟩) (N.length + 3) ⟨0, N.length + 4, start, [], rfl, by omega, by omega, hS, .inl ⟨rfl, rfl, rfl⟩, rfl⟩ ?_
  rintro q _ ⟨k, f, at_, out, hk2, hkq, hqf, hcy, hq, rfl⟩
  refine pblock ?_
  refine pseq ?_
  refine pcut (fun st => st = ⟨[(1, vi start), (2, .ptr 0 0 0), (5, .mref 1), (6, slP (k + 1) 2), (7, vi at_)], [cG (sV N) (.vmap (cS L)), mRow kI m, vRow c1 1 (k + 1) (lF 0 (out ++ [at_]))]⟩) ?_ ?_
  · have hkb : k ≤ 1000000 := by omega
    rcases k with _ | k
    · repeat' (first | refine gg ?_ | exact trivial | with_reducible refine wA ?_ ?_ | refine Y2.mk ?_ ?_ | exact ⟨Nat.le_refl _, (by rw [hk]; exact Nat.le_of_ble_eq_true rfl), Nat.le_of_eq (Nat.zero_add _), (show (_ : Nat) * 8 ≤ 140737488355328 from by omega), (show (_ : Nat) ≤ 9223372036854775807 from by omega)⟩ | refine gh ?_ | exact qq | fail)
      exact kcut (can_rowsv [0, 1, 4] (k0_sel hk rfl) rfl (.cons rfl (cG_eq (PEq.refl _) (PEq.refl _)) (.cons rfl m_eq (.cons rfl (app_l0 c1_cl hk2 rfl) .nil))) tmq) rfl
    · repeat' (first | refine gg ?_ | exact trivial | with_reducible refine wA ?_ ?_ | refine Y2.mk ?_ ?_ | exact ⟨Nat.le_refl _, (by rw [hk]; exact Nat.le_of_ble_eq_true rfl), Nat.le_of_eq (Nat.zero_add _), (show (_ : Nat) * 8 ≤ 140737488355328 from by omega), (show (_ : Nat) ≤ 9223372036854775807 from by omega)⟩ | refine gh ?_ | exact qq | fail)
      exact kcut (can_rowsv [0, 1, 4] (k0_sel hk rfl) rfl (.cons rfl (cG_eq (PEq.refl _) (PEq.refl _)) (.cons rfl m_eq (.cons rfl (app_l c1_cl hk2 rfl rfl) .nil))) tmq) rfl
  rintro _ rfl
  repeat' (first | refine gg ?_ | exact trivial | with_reducible refine wA ?_ ?_ | refine Y2.mk ?_ ?_ | refine gh ?_ | exact qq | fail)
  refine pop_lookvS mapIS at_ rfl rfl rfl rfl rfl rfl ?_
  have hlb : (sget L at_).length ≤ 1000000 := sget_len (N := N) hL at_
  repeat' (first | refine gg ?_ | exact trivial | with_reducible refine wA ?_ ?_ | refine Y2.mk ?_ ?_ | refine gh ?_ | exact qq | fail)
  refine pcan (st' := ⟨[(1, vi start), (2, .ptr 0 0 0), (5, .mref 1), (6, slP (k + 1) 2), (8, vi (-1)), (24, sV (sget L at_)), (25, vi (sget L at_).length), (26, vi ((0 : Nat) : Int))], [cG (sV N) (.vmap (cS L)), mRow kI m, vRow c1 1 (k + 1) (lF 0 (out ++ [at_]))]⟩) (can_rowsv [0, 1, 2] (k0_sel hk rfl) rfl (.cons rfl (cG_eq (PEq.refl _) (PEq.refl _)) (.cons rfl m_eq (.cons rfl (RowEq.cl (v_cl c1_cl _ _ _)) .nil))) tmq) ?_
  refine ploop (fun q st => ∃ (j : Nat) (b : Int), j ≤ (sget L at_).length ∧ b = nxtF m ((sget L at_).take j) ∧ q = (sget L at_).length - j ∧ st = ⟨[(1, vi start), (2, .ptr 0 0 0), (5, .mref 1), (6, slP (k + 1) 2), (8, vi b), (24, sV (sget L at_)), (25, vi (sget L at_).length), (26, vi j)], [cG (sV N) (.vmap (cS L)), mRow kI m, vRow c1 1 (k + 1) (lF 0 (out ++ [at_]))]⟩) (sget L at_).length ⟨0, -1, Nat.zero_le _, by rw [List.take_zero]; rfl, rfl, rfl⟩ ?_
  rintro _ _ ⟨j, b, hj, hb, rfl, rfl⟩
  have hw1 : IntKind.i64.wrap ((j : Int) + 1) = ((j + 1 : Nat) : Int) := w64 (by omega) (by omega)
  repeat' (first | refine gg ?_ | exact trivial | with_reducible refine wA ?_ ?_ | refine Y2.mk ?_ ?_ | refine gh ?_ | exact qq | fail)
  refine pcond rfl ?_ ?_ <;> intro hc
  · have hc : j < (sget L at_).length := by have := of_decide_eq_true hc; omega
    have hT : (sget L at_).take (j + 1) = (sget L at_).take j ++ [lF 0 (sget L at_) j] := by
      unfold lF
      rw [List.take_add_one, List.getD_eq_getElem?_getD, List.getElem?_eq_getElem (by omega)]; rfl
    have hG : nxtF m ((sget L at_).take (j + 1)) = nxtG m b (lF 0 (sget L at_) j) := by rw [hT, nxtF_snoc, ← hb]
    repeat' (first | refine gg ?_ | exact trivial | with_reducible refine wA ?_ ?_ | refine Y2.mk ?_ ?_ | refine gh ?_ | exact qq | fail)
    refine pop_look mapIId true (lF 0 (sget L at_) j) rfl rfl rfl rfl rfl rfl rfl ?_
    cases hm : mget m (lF 0 (sget L at_) j) with
    | none =>
      have hG2 : nxtG m b (lF 0 (sget L at_) j) = b := by unfold nxtG; rw [hm]
      repeat' (first | refine gg ?_ | exact trivial | with_reducible refine wA ?_ ?_ | refine Y2.mk ?_ ?_ | (refine pop_gfalse rfl rfl rfl rfl ?_) | exact (fun hh => by cases hh) | refine gh ?_ | exact qq | fail)
      rw [hw1]
      exact kloop_next (st' := ⟨[(1, vi start), (2, .ptr 0 0 0), (5, .mref 1), (6, slP (k + 1) 2), (8, vi b), (24, sV (sget L at_)), (25, vi (sget L at_).length), (26, vi ((j + 1 : Nat) : Int))], [cG (sV N) (.vmap (cS L)), mRow kI m, vRow c1 1 (k + 1) (lF 0 (out ++ [at_]))]⟩) ((sget L at_).length - (j + 1)) (can_rowsv [0, 1, 2] (k0_sel hk rfl) rfl (.cons rfl (cG_eq (PEq.refl _) (PEq.refl _)) (.cons rfl m_eq (.cons rfl (RowEq.cl (v_cl c1_cl _ _ _)) .nil))) tmq) (by omega) ⟨j + 1, _, by omega, by rw [hG, hG2], rfl, rfl⟩
    | some d =>
      by_cases hb0 : b < 0
      · have hG2 : nxtG m b (lF 0 (sget L at_) j) = lF 0 (sget L at_) j := by unfold nxtG; rw [hm]; exact if_pos (.inl hb0)
        repeat' (first | refine gg ?_ | exact trivial | with_reducible refine wA ?_ ?_ | refine Y2.mk ?_ ?_ | refine gh ?_ | exact qq | fail)
        rw [decide_eq_true hb0]
        repeat' (first | refine gg ?_ | exact trivial | with_reducible refine wA ?_ ?_ | refine Y2.mk ?_ ?_ | (refine pop_gfalse rfl rfl rfl rfl ?_) | (intro hh; cases hh; done) | (intro _; exact ⟨rfl, trivial⟩) | (exact ⟨rfl, trivial⟩) | refine gh ?_ | exact qq | fail)
        rw [hw1]
        exact kloop_next (st' := ⟨[(1, vi start), (2, .ptr 0 0 0), (5, .mref 1), (6, slP (k + 1) 2), (8, vi (lF 0 (sget L at_) j)), (24, sV (sget L at_)), (25, vi (sget L at_).length), (26, vi ((j + 1 : Nat) : Int))], [cG (sV N) (.vmap (cS L)), mRow kI m, vRow c1 1 (k + 1) (lF 0 (out ++ [at_]))]⟩) ((sget L at_).length - (j + 1)) (can_rowsv [0, 1, 2] (k0_sel hk rfl) rfl (.cons rfl (cG_eq (PEq.refl _) (PEq.refl _)) (.cons rfl m_eq (.cons rfl (RowEq.cl (v_cl c1_cl _ _ _)) .nil))) tmq) (by omega) ⟨j + 1, _, by omega, by rw [hG, hG2], rfl, rfl⟩
      · repeat' (first | refine gg ?_ | exact trivial | with_reducible refine wA ?_ ?_ | refine Y2.mk ?_ ?_ | refine gh ?_ | exact qq | fail)
        rw [decide_eq_false hb0]
        refine pop_opt 42 rfl rfl ?_
        refine pop_opt 43 rfl rfl ?_
        refine pop_unguard rfl rfl ?_
        refine pop_look mapIId false b rfl rfl rfl rfl rfl rfl rfl ?_
        repeat' (first | refine gg ?_ | exact trivial | with_reducible refine wA ?_ ?_ | refine Y2.mk ?_ ?_ | refine gh ?_ | exact qq | fail)
        refine pcond (b := decide (d < (mget m b).getD 0)) rfl ?_ ?_ <;> intro hd
        · have hG2 : nxtG m b (lF 0 (sget L at_) j) = lF 0 (sget L at_) j := by unfold nxtG; rw [hm]; exact if_pos (.inr (of_decide_eq_true hd))
          repeat' (first | refine gg ?_ | exact trivial | with_reducible refine wA ?_ ?_ | refine Y2.mk ?_ ?_ | refine gh ?_ | exact qq | fail)
          rw [hw1]
          exact kloop_next (st' := ⟨[(1, vi start), (2, .ptr 0 0 0), (5, .mref 1), (6, slP (k + 1) 2), (8, vi (lF 0 (sget L at_) j)), (24, sV (sget L at_)), (25, vi (sget L at_).length), (26, vi ((j + 1 : Nat) : Int))], [cG (sV N) (.vmap (cS L)), mRow kI m, vRow c1 1 (k + 1) (lF 0 (out ++ [at_]))]⟩) ((sget L at_).length - (j + 1)) (can_rowsv [0, 1, 2] (k0_sel hk rfl) rfl (.cons rfl (cG_eq (PEq.refl _) (PEq.refl _)) (.cons rfl m_eq (.cons rfl (RowEq.cl (v_cl c1_cl _ _ _)) .nil))) tmq) (by omega) ⟨j + 1, _, by omega, by rw [hG, hG2], rfl, rfl⟩
        · have hG2 : nxtG m b (lF 0 (sget L at_) j) = b := by unfold nxtG; rw [hm]; exact if_neg (fun h => h.elim hb0 (of_decide_eq_false hd))
          repeat' (first | refine gg ?_ | exact trivial | with_reducible refine wA ?_ ?_ | refine Y2.mk ?_ ?_ | refine gh ?_ | exact qq | fail)
          rw [hw1]
          exact kloop_next (st' := ⟨[(1, vi start), (2, .ptr 0 0 0), (5, .mref 1), (6, slP (k + 1) 2), (8, vi b), (24, sV (sget L at_)), (25, vi (sget L at_).length), (26, vi ((j + 1 : Nat) : Int))], [cG (sV N) (.vmap (cS L)), mRow kI m, vRow c1 1 (k + 1) (lF 0 (out ++ [at_]))]⟩) ((sget L at_).length - (j + 1)) (can_rowsv [0, 1, 2] (k0_sel hk rfl) rfl (.cons rfl (cG_eq (PEq.refl _) (PEq.refl _)) (.cons rfl m_eq (.cons rfl (RowEq.cl (v_cl c1_cl _ _ _)) .nil))) tmq) (by omega) ⟨j + 1, _, by omega, by rw [hG, hG2], rfl, rfl⟩
  · have hjl : j = (sget L at_).length := by have := of_decide_eq_false hc; omega
    subst hjl
    have hok := nxtF_ok m (sget L at_) (hL0 at_) (sget L at_).length
    rw [← hb, List.take_length] at hok
    rw [List.take_length] at hb
    obtain ⟨f, rfl⟩ : ∃ f', f = f' + 1 := ⟨f - 1, by omega⟩
    rw [cycF, ← hb] at hcy
    repeat' (first | refine gg ?_ | exact trivial | with_reducible refine wA ?_ ?_ | refine Y2.mk ?_ ?_ | refine gh ?_ | exact qq | fail)
    refine pcond rfl ?_ ?_ <;> intro hb0
    · have hb0 := of_decide_eq_true hb0
      rw [if_pos hb0] at hcy
      repeat' (first | refine gg ?_ | exact trivial | with_reducible refine wA ?_ ?_ | refine Y2.mk ?_ ?_ | refine gh ?_ | exact qq | fail)
      refine xdone ?_
      refine kblock_ret (kloop_ret (kblock_ret ?_))
      refine kret [] rfl ⟨trivial, trivial⟩ (qs := [.val (.slice none 0 0)]) ⟨argVal, trivial⟩ ?_
      rw [hcy]; rfl
    · have hb0 := of_decide_eq_false hb0
      rw [if_neg hb0] at hcy
      repeat' (first | refine gg ?_ | exact trivial | with_reducible refine wA ?_ ?_ | refine Y2.mk ?_ ?_ | refine gh ?_ | exact qq | fail)
      refine pcond (b := decide (b = start)) (eqB (by rw [Bool.eq_iff_iff]; simp)) ?_ ?_ <;> intro hbs
      · have hbs := of_decide_eq_true hbs
        rw [if_pos hbs] at hcy
        repeat' (first | refine gg ?_ | exact trivial | with_reducible refine wA ?_ ?_ | refine Y2.mk ?_ ?_ | refine gh ?_ | exact qq | fail)
        refine xdone ?_
        refine kblock_ret (kloop_ret (kblock_ret ?_))
        refine kret [2] rfl ⟨trivial, trivial⟩ (qs := [.vsl (k + 1) 1 (tI (lF 0 (out ++ [at_])))]) ⟨argTI (arg_v (n := k + 1) (l := 2) c1_cl rfl (List.Mem.head _)), trivial⟩ ?_
        rw [hcy, cycR_snoc]
        show PV.vsl (k + 1) 1 _ = .vsl (out ++ [at_]).length 1 _
        rw [List.length_append, hk2]; rfl
      · have hbs := of_decide_eq_false hbs
        rw [if_neg hbs] at hcy
        obtain ⟨d, hd1, hd2, hd3⟩ : ∃ d, mget m b = some d ∧ 0 < d ∧ d.toNat < q := by
          rcases hok with ⟨e, _⟩ | ⟨e0, e1, d, e2, e3⟩
          · omega
          · have h1 := hpos b d e2
            have h2 : 0 < d := by
              by_cases e : d = 0
              · exact absurd (hzero b (e ▸ e2)) hbs
              · omega
            refine ⟨d, e2, h2, ?_⟩
            rcases hq with ⟨_, _, hq⟩ | ⟨d0, hd0, hd0p, hq⟩
            · omega
            · obtain ⟨y, hy1, hy2⟩ := (hpos at_ d0 hd0).2.2 hd0p
              have := e3 y hy1 _ hy2
              omega
        repeat' (first | refine gg ?_ | exact trivial | with_reducible refine wA ?_ ?_ | refine Y2.mk ?_ ?_ | refine gh ?_ | exact qq | fail)
        refine xdone ?_
        refine kblock_normal ?_
        exact kloop_next (st' := ⟨[(1, vi start), (2, .ptr 0 0 0), (5, .mref 1), (6, slP (k + 1) 2), (7, vi b)], [cG (sV N) (.vmap (cS L)), mRow kI m, vRow c1 1 (k + 1) (lF 0 (out ++ [at_]))]⟩) d.toNat (can_rowsv [0, 1, 2] (k0_sel hk rfl) rfl (.cons rfl (cG_eq (PEq.refl _) (PEq.refl _)) (.cons rfl m_eq (.cons rfl (RowEq.cl (v_cl c1_cl _ _ _)) .nil))) tmq) hd3 ⟨k + 1, f, b, out ++ [at_], by rw [List.length_append, hk2]; rfl, by omega, by omega, hcy, .inr ⟨d, hd1, hd2, rfl⟩, rfl⟩
end Go.Proofs.YtcefhgomkehokaaGreat
namespace Go.Proofs.YtcefhgomkehokaaGreat
open Go.MapKept
theorem pop_gfB {G : Pg2} {N : Nat} {Γ : Fr} {st : PSt} {K : Exit → PSt → Prop} {ops : Array Oper} {o : Oper} {rest : List Oper} {d j : Nat} {want : Bool} (hg : o.guard = some (j, want)) (hd : o.dst = some d) (hN : Nat.blt d N = true) (hgv : gval ops st j want = some false) (h : POps G.toPg N Γ ops rest (st.put d (.opt false (vb false))) K) : POps G.toPg N Γ ops (o :: rest) st K := .mk fun ρ I a w hrel => by
  have hw := gval_sound hrel hg hgv
  simp only [wpList, hw, Bool.false_eq_true, if_false, hd]
  exact h.go ρ I _ w (hrel.put (by rwa [Nat.blt_eq] at hN) ⟨by simp, fun _ => rfl⟩)
def nilV : PV → Option Bool
  | .vsl (_ + 1) _ _ => some false
  | .lsl _ _ (_ + 1) => some false
  | .val (.slice none 0 0) => some true
  | _ => none
theorem nilV_rel {p : PV} {b : Bool} {k : Nat} {ρ : Nat → Loc} {I : Nat → Prop} {w : World} {v : Value} (h : nilV p = some b) (hv : VRel k ρ I w p v) : ∃ a n cap, v = .slice a n cap ∧ a.isNone = b := by
  unfold nilV at h
  split at h
  · injection h with h
    obtain ⟨a, cap, rfl, h3⟩ := slLen_rel rfl hv
    rcases h3 (Nat.succ_pos _) with ⟨x, rfl⟩ | ⟨c, hc⟩
    · exact ⟨_, _, _, rfl, h⟩
    · cases hc
  · injection h with h
    obtain ⟨a, cap, rfl, h3⟩ := slLen_rel rfl hv
    rcases h3 (Nat.succ_pos _) with ⟨x, rfl⟩ | ⟨c, hc⟩
    · exact ⟨_, _, _, rfl, h⟩
    · cases hc
  · injection h with h
    have hv : v = .slice none 0 0 := hv
    exact ⟨none, 0, 0, hv, h⟩
  · cases h
section
variable {G : Pg} {N : Nat} {Γ : Fr} {st : PSt} {K : Exit → PSt → Prop} {ops : Array Oper} {o : Oper} {rest : List Oper} {d : Nat}
theorem pop_nilE {t t' e : Nat} {x : Operand} (b : Bool) (hg : o.guard = none) (hd : o.dst = some d) (hN : Nat.blt d N = true) (ho : o.op = .binOp .eql t x (.const (.slice none 0 0)) t') (hk : (tget G.tab t).k = .slice e) (hl : nilV (st.ev x) = some b)
    (h : POps G N Γ ops rest (st.put d (vb b)) K) : POps G N Γ ops (o :: rest) st K := .mk fun ρ I a w hrel => by
  have hw : Region.wanted o (yielded ops a.tmps) = true := by simp [Region.wanted, hg]
  simp only [wpList, hw, if_true]
  refine .inl ?_
  obtain ⟨ad, n, cap, hv, hn⟩ := nilV_rel hl (ev_rel hrel x)
  have hu := tab_slice G.ok hk
  have hrun : (execOp a.eval o).run G.P w = .ok (.value (.bool ad.isNone)) w := by
    have hc : a.eval (.const (.slice none 0 0)) = .slice none 0 0 := rfl
    have hb : (binOp .eql t (.slice ad n cap) (.slice none 0 0)).run G.P w = .ok (.bool ad.isNone) w := by
      show (do pure (Value.bool (← Op.equal t (.slice ad n cap) (.slice none 0 0))) : Sem Value).run G.P w = _
      simp only [Sem.run_bind, run_equal_slice_nil w t e ad n cap hu, Result.andThen_ok, Sem.run_pure]
    simp only [execOp, ho, hv, hc, Sem.run_bind, eqGuard_plain .eql t x (.const (.slice none 0 0)) (.slice ad n cap) (.slice none 0 0) w (by simp) (by simp), hb, Result.andThen_ok, Sem.run_pure]
  simp only [Oper.wp, hrun, Oper.upon_value, hd]
  rw [hn]
  exact h.go ρ I _ w (hrel.put (by rwa [Nat.blt_eq] at hN) rfl)
theorem pop_nilN {t t' e : Nat} {x : Operand} (b : Bool) (hg : o.guard = none) (hd : o.dst = some d) (hN : Nat.blt d N = true) (ho : o.op = .binOp .neq t x (.const (.slice none 0 0)) t') (hk : (tget G.tab t).k = .slice e) (hl : nilV (st.ev x) = some b)
    (h : POps G N Γ ops rest (st.put d (vb (!b))) K) : POps G N Γ ops (o :: rest) st K := .mk fun ρ I a w hrel => by
  have hw : Region.wanted o (yielded ops a.tmps) = true := by simp [Region.wanted, hg]
  simp only [wpList, hw, if_true]
  refine .inl ?_
  obtain ⟨ad, n, cap, hv, hn⟩ := nilV_rel hl (ev_rel hrel x)
  have hu := tab_slice G.ok hk
  have hrun : (execOp a.eval o).run G.P w = .ok (.value (.bool (!ad.isNone))) w := by
    have hc : a.eval (.const (.slice none 0 0)) = .slice none 0 0 := rfl
    have hb : (binOp .neq t (.slice ad n cap) (.slice none 0 0)).run G.P w = .ok (.bool (!ad.isNone)) w := by
      show (do pure (Value.bool (!(← Op.equal t (.slice ad n cap) (.slice none 0 0)))) : Sem Value).run G.P w = _
      simp only [Sem.run_bind, run_equal_slice_nil w t e ad n cap hu, Result.andThen_ok, Sem.run_pure]
    simp only [execOp, ho, hv, hc, Sem.run_bind, eqGuard_plain .neq t x (.const (.slice none 0 0)) (.slice ad n cap) (.slice none 0 0) w (by simp) (by simp), hb, Result.andThen_ok, Sem.run_pure]
  simp only [Oper.wp, hrun, Oper.upon_value, hd]
  rw [hn]
  exact h.go ρ I _ w (hrel.put (by rwa [Nat.blt_eq] at hN) rfl)
end
theorem cycR_cl : ∀ c, Cl (cycR c)
  | [] => trivial
  | _ :: _ => trivial
def bstG (b c : List Int) : List Int := if c ≠ [] ∧ (b = [] ∨ c.length < b.length) then c else b
def bstF (N : List Int) (L : List (Int × List Int)) (A : List Int) : List Int := A.foldl (fun b x => bstG b (cycS N L x)) []
theorem bstF_snoc {N : List Int} {L : List (Int × List Int)} {A : List Int} {x : Int} : bstF N L (A ++ [x]) = bstG (bstF N L A) (cycS N L x) := by
  unfold bstF; rw [List.foldl_append]; rfl
def CycS (nm : ByteArray) (l : List Df) (day : Int) : List Int := if gErr nm l day ≠ 0 then [] else bstF (nodS l day) (mapS l day) (nodS l day)
theorem sget_map {f : Int → List Int} {ns : List Int} {x y : Int} (h : y ∈ sget (ns.map fun x => (x, f x)) x) : x ∈ ns ∧ y ∈ f x := by
  unfold sget at h
  split at h
  · rename_i e he
    have h1 := List.mem_of_find?_eq_some he
    have h2 := List.find?_some he
    obtain ⟨z, hz, rfl⟩ := List.mem_map.1 h1
    have h2 : z = x := by simpa using h2
    subst h2
    exact ⟨hz, h⟩
  · cases h
theorem needS_mem {l : List Df} {act : List Int} {i : Nat} {y : Int} (h : y ∈ (needS l act i).1) : y ∈ act := by
  unfold needS at h
  split at h
  · exact (List.mem_filter.1 h).1
  · cases h
theorem mapS_pos (l : List Df) (day : Int) : ∀ x y, y ∈ sget (mapS l day) x → 0 ≤ y := fun x y h => (actL_in y (needS_mem (sget_map h).2)).1
set_option maxHeartbeats 8000000 in
theorem Cycle_c (nm : ByteArray) (l : List Df) (day : Int) (h : AgO nm l) (hl : l.length ≤ 900000) : PureC G.P 15 [vA nm l, vi day] (fun r => r = cycR (CycS nm l day)) := by
  by_cases he : gErr nm l day = 0
  · have cg := newGraph_c0 nm l day h (by omega) he
    have hNl := nodS_len l day
    have cy := fun x => cycle_c (nodS l day) (mapS l day) x (by omega) (fun e he => Nat.le_trans (mapS_len l day e he) (by omega)) (mapS_pos l day)
    have hX : CycS nm l day = bstF (nodS l day) (mapS l day) (nodS l day) := by unfold CycS; rw [if_neg (fun hh => hh he)]
    rw [hX]
    generalize nodS l day = N at *
    generalize mapS l day = L at *
    refine pure_of (G := G.toPg) (fn := Tryz.f15) Tryz.func15 rfl rfl rfl ?_; intro Γ hk
    repeat' (first | refine gg ?_ | exact trivial | with_reducible refine wA ?_ ?_ | refine Y2.mk ?_ ?_ | (refine pop_callc [] rfl rfl rfl rfl rfl rfl (fun _ h => by cases h) (cg) (args_cl _ rfl) ?_; rintro _ rfl) | refine gh ?_ | exact qq | fail)
    refine pcan (st' := ⟨[(5, .ptr 0 0 0), (7, cycR []), (20, sV N), (21, vi N.length), (22, vi ((0 : Nat) : Int))], [cG (sV N) (.vmap (cS L))]⟩) (can_rowsv [1] (k0_sel hk rfl) rfl (.cons rfl (cG_eq (PEq.refl _) (PEq.refl _)) .nil) tmq) ?_
    refine ploop (fun q st => ∃ (i : Nat) (b : List Int), i ≤ N.length ∧ b = bstF N L (N.take i) ∧ q = N.length - i ∧ st = ⟨[(5, .ptr 0 0 0), (7, cycR b), (20, sV N), (21, vi N.length), (22, vi i)], [cG (sV N) (.vmap (cS L))]⟩) N.length ⟨0, [], Nat.zero_le _, by rw [List.take_zero]; rfl, rfl, rfl⟩ ?_
    rintro _ _ ⟨i, b, hi, hb, rfl, rfl⟩
    have hw1 : IntKind.i64.wrap ((i : Int) + 1) = ((i + 1 : Nat) : Int) := w64 (by omega) (by omega)
    repeat' (first | refine gg ?_ | exact trivial | with_reducible refine wA ?_ ?_ | refine Y2.mk ?_ ?_ | refine gh ?_ | exact qq | fail)
    refine pcond rfl ?_ ?_ <;> intro hc
    · have hc : i < N.length := by have := of_decide_eq_true hc; omega
      have hT : N.take (i + 1) = N.take i ++ [lF 0 N i] := by
        unfold lF
        rw [List.take_add_one, List.getD_eq_getElem?_getD, List.getElem?_eq_getElem (by omega)]; rfl
      have hG : bstF N L (N.take (i + 1)) = bstG b (cycS N L (lF 0 N i)) := by rw [hT, bstF_snoc, ← hb]
      have cy1 := cy (lF 0 N i)
      generalize hcy : cycS N L (lF 0 N i) = c at cy1 hG
      cases c with
      | nil =>
        cases b with
        | nil =>
          repeat' (first | refine gg ?_ | exact trivial | with_reducible refine wA ?_ ?_ | refine Y2.mk ?_ ?_ | (refine pop_callc [] rfl rfl rfl rfl rfl rfl (fun _ h => by cases h) (cy1) (args_cl _ rfl) ?_; rintro _ rfl) | refine gh ?_ | exact qq | fail)
          refine pop_nilN true rfl rfl rfl rfl rfl rfl ?_
          repeat' (first | refine gg ?_ | exact trivial | with_reducible refine wA ?_ ?_ | refine Y2.mk ?_ ?_ | refine gh ?_ | exact qq | fail)
          refine pop_gfB rfl rfl rfl rfl ?_
          repeat' (first | refine gg ?_ | exact trivial | with_reducible refine wA ?_ ?_ | refine Y2.mk ?_ ?_ | (refine pop_gfalse rfl rfl rfl rfl ?_) | (intro hh; cases hh; done) | (intro _; exact ⟨rfl, trivial⟩) | (exact ⟨rfl, trivial⟩) | refine gh ?_ | exact qq | fail)
          rw [hw1]
          exact kloop_next (st' := ⟨[(5, .ptr 0 0 0), (7, cycR []), (20, sV N), (21, vi N.length), (22, vi ((i + 1 : Nat) : Int))], [cG (sV N) (.vmap (cS L))]⟩) (N.length - (i + 1)) (can_rowsv [0] (k0_sel hk rfl) rfl (.cons rfl (cG_eq (PEq.refl _) (PEq.refl _)) .nil) (by exact ⟨PEq.refl _, PEq.cl _ (cycR_cl []), PEq.refl _, PEq.refl _, PEq.refl _, trivial⟩)) (by omega) ⟨i + 1, _, by omega, by rw [hG]; unfold bstG; rw [if_neg (fun hh => hh.1 rfl)], rfl, rfl⟩
        | cons a2 b =>
          repeat' (first | refine gg ?_ | exact trivial | with_reducible refine wA ?_ ?_ | refine Y2.mk ?_ ?_ | (refine pop_callc [] rfl rfl rfl rfl rfl rfl (fun _ h => by cases h) (cy1) (args_cl _ rfl) ?_; rintro _ rfl) | refine gh ?_ | exact qq | fail)
          refine pop_nilN true rfl rfl rfl rfl rfl rfl ?_
          repeat' (first | refine gg ?_ | exact trivial | with_reducible refine wA ?_ ?_ | refine Y2.mk ?_ ?_ | refine gh ?_ | exact qq | fail)
          refine pop_gfB rfl rfl rfl rfl ?_
          repeat' (first | refine gg ?_ | exact trivial | with_reducible refine wA ?_ ?_ | refine Y2.mk ?_ ?_ | (refine pop_gfalse rfl rfl rfl rfl ?_) | (intro hh; cases hh; done) | (intro _; exact ⟨rfl, trivial⟩) | (exact ⟨rfl, trivial⟩) | refine gh ?_ | exact qq | fail)
          rw [hw1]
          exact kloop_next (st' := ⟨[(5, .ptr 0 0 0), (7, cycR (a2 :: b)), (20, sV N), (21, vi N.length), (22, vi ((i + 1 : Nat) : Int))], [cG (sV N) (.vmap (cS L))]⟩) (N.length - (i + 1)) (can_rowsv [0] (k0_sel hk rfl) rfl (.cons rfl (cG_eq (PEq.refl _) (PEq.refl _)) .nil) (by exact ⟨PEq.refl _, PEq.cl _ (cycR_cl (a2 :: b)), PEq.refl _, PEq.refl _, PEq.refl _, trivial⟩)) (by omega) ⟨i + 1, _, by omega, by rw [hG]; unfold bstG; rw [if_neg (fun hh => hh.1 rfl)], rfl, rfl⟩
      | cons a c =>
        cases b with
        | nil =>
          repeat' (first | refine gg ?_ | exact trivial | with_reducible refine wA ?_ ?_ | refine Y2.mk ?_ ?_ | (refine pop_callc [] rfl rfl rfl rfl rfl rfl (fun _ h => by cases h) (cy1) (args_cl _ rfl) ?_; rintro _ rfl) | refine gh ?_ | exact qq | fail)
          refine pop_nilN false rfl rfl rfl rfl rfl rfl ?_
          repeat' (first | refine gg ?_ | exact trivial | with_reducible refine wA ?_ ?_ | refine Y2.mk ?_ ?_ | refine gh ?_ | exact qq | fail)
          refine pop_opt 32 rfl rfl ?_
          refine pop_unguard rfl rfl ?_
          refine pop_nilE true rfl rfl rfl rfl rfl rfl ?_
          repeat' (first | refine gg ?_ | exact trivial | with_reducible refine wA ?_ ?_ | refine Y2.mk ?_ ?_ | (refine pop_gfalse rfl rfl rfl rfl ?_) | (intro hh; cases hh; done) | (intro _; exact ⟨rfl, trivial⟩) | (exact ⟨rfl, trivial⟩) | refine gh ?_ | exact qq | fail)
          rw [hw1]
          exact kloop_next (st' := ⟨[(5, .ptr 0 0 0), (7, cycR (a :: c)), (20, sV N), (21, vi N.length), (22, vi ((i + 1 : Nat) : Int))], [cG (sV N) (.vmap (cS L))]⟩) (N.length - (i + 1)) (can_rowsv [0] (k0_sel hk rfl) rfl (.cons rfl (cG_eq (PEq.refl _) (PEq.refl _)) .nil) tmq) (by omega) ⟨i + 1, _, by omega, by rw [hG]; unfold bstG; rw [if_pos ⟨by simp, .inl rfl⟩], rfl, rfl⟩
        | cons a2 b =>
          repeat' (first | refine gg ?_ | exact trivial | with_reducible refine wA ?_ ?_ | refine Y2.mk ?_ ?_ | (refine pop_callc [] rfl rfl rfl rfl rfl rfl (fun _ h => by cases h) (cy1) (args_cl _ rfl) ?_; rintro _ rfl) | refine gh ?_ | exact qq | fail)
          refine pop_nilN false rfl rfl rfl rfl rfl rfl ?_
          repeat' (first | refine gg ?_ | exact trivial | with_reducible refine wA ?_ ?_ | refine Y2.mk ?_ ?_ | refine gh ?_ | exact qq | fail)
          refine pop_opt 32 rfl rfl ?_
          refine pop_unguard rfl rfl ?_
          refine pop_nilE false rfl rfl rfl rfl rfl rfl ?_
          repeat' (first | refine gg ?_ | exact trivial | with_reducible refine wA ?_ ?_ | refine Y2.mk ?_ ?_ | refine gh ?_ | exact qq | fail)
          refine pcond (b := decide ((a :: c).length < (a2 :: b).length)) (eqB (by rw [Bool.eq_iff_iff]; simp)) ?_ ?_ <;> intro hd
          · have hd := of_decide_eq_true hd
            repeat' (first | refine gg ?_ | exact trivial | with_reducible refine wA ?_ ?_ | refine Y2.mk ?_ ?_ | refine gh ?_ | exact qq | fail)
            rw [hw1]
            exact kloop_next (st' := ⟨[(5, .ptr 0 0 0), (7, cycR (a :: c)), (20, sV N), (21, vi N.length), (22, vi ((i + 1 : Nat) : Int))], [cG (sV N) (.vmap (cS L))]⟩) (N.length - (i + 1)) (can_rowsv [0] (k0_sel hk rfl) rfl (.cons rfl (cG_eq (PEq.refl _) (PEq.refl _)) .nil) tmq) (by omega) ⟨i + 1, _, by omega, by rw [hG]; unfold bstG; rw [if_pos ⟨by simp, .inr hd⟩], rfl, rfl⟩
          · have hd := of_decide_eq_false hd
            repeat' (first | refine gg ?_ | exact trivial | with_reducible refine wA ?_ ?_ | refine Y2.mk ?_ ?_ | refine gh ?_ | exact qq | fail)
            rw [hw1]
            exact kloop_next (st' := ⟨[(5, .ptr 0 0 0), (7, cycR (a2 :: b)), (20, sV N), (21, vi N.length), (22, vi ((i + 1 : Nat) : Int))], [cG (sV N) (.vmap (cS L))]⟩) (N.length - (i + 1)) (can_rowsv [0] (k0_sel hk rfl) rfl (.cons rfl (cG_eq (PEq.refl _) (PEq.refl _)) .nil) tmq) (by omega) ⟨i + 1, _, by omega, by rw [hG]; unfold bstG; rw [if_neg (fun hh => hh.2.elim (by simp) hd)], rfl, rfl⟩
    · have hil : i = N.length := by have := of_decide_eq_false hc; omega
      subst hil
      rw [List.take_length] at hb
      cases b with
      | nil =>
        repeat' (first | refine gg ?_ | exact trivial | with_reducible refine wA ?_ ?_ | refine Y2.mk ?_ ?_ | refine gh ?_ | exact qq | fail)
        refine kretv rfl ⟨trivial, trivial⟩ rfl ?_
        rw [← hb]; rfl
      | cons a2 b =>
        repeat' (first | refine gg ?_ | exact trivial | with_reducible refine wA ?_ ?_ | refine Y2.mk ?_ ?_ | refine gh ?_ | exact qq | fail)
        refine kretv rfl ⟨trivial, trivial⟩ rfl ?_
        rw [← hb]; rfl
  · have cg := newGraph_c1 nm l day h (by omega) he
    refine pure_of (G := G.toPg) (fn := Tryz.f15) Tryz.func15 rfl rfl rfl ?_; intro Γ hk
    repeat' (first | refine gg ?_ | exact trivial | with_reducible refine wA ?_ ?_ | refine Y2.mk ?_ ?_ | (refine pop_callc [] rfl rfl rfl rfl rfl rfl (fun _ h => by cases h) (cg) (args_cl _ rfl) ?_; rintro _ rfl) | refine gh ?_ | exact qq | fail)
    refine pcond (b := true) (eqB (by simpa using he)) ?_ ?_ <;> intro h1
    · repeat' (first | refine gg ?_ | exact trivial | with_reducible refine wA ?_ ?_ | refine Y2.mk ?_ ?_ | refine gh ?_ | exact qq | fail)
      refine kretv rfl ⟨trivial, trivial⟩ rfl ?_
      unfold CycS; rw [if_pos he]; rfl
    · cases h1
end Go.Proofs.YtcefhgomkehokaaGreat
namespace Go.Proofs.YtcefhgomkehokaaGreat
abbrev cSl (L : List Int) : List PV := [sV L]
theorem cSl_cl : CellsCl cSl := fun L => ⟨clB_spec _ rfl, trivial⟩
def wR (n i : Nat) (W : Nat → List Int) : Row := ⟨.own, false, n, 1, fun a _ => if a < i then sV (W a) else nilX⟩
theorem wR_zero {τ : Nat → Option Nat} {n : Nat} {W : Nat → List Int} {f : Nat → Nat → PV} (h : ∀ a, a < n → f a 0 = nilX) : RowEq (Row.ren τ ⟨.own, false, n, 1, f⟩) (wR n 0 W) := ⟨rfl, rfl, Nat.le_refl _, fun a ha j hj => by
  have hj : j < 1 := hj
  obtain rfl : j = 0 := by omega
  show PEq ((f a 0).ren τ) (if a < 0 then sV (W a) else nilX)
  rw [h a ha, if_neg (Nat.not_lt_zero a)]; exact PEq.refl _⟩
theorem sget_mapL {l : List Df} {act ns : List Int} {x : Int} (hx : x ∈ ns) : sget (mapL l act ns) x = (needS l act x.toNat).1 := by
  unfold sget mapL
  have : ∀ (ns : List Int), x ∈ ns → (ns.map fun x => (x, (needS l act x.toNat).1)).find? (fun e => decide (e.1 = x)) = some (x, (needS l act x.toNat).1) := by
    intro ns
    induction ns with
    | nil => intro h; cases h
    | cons z ns ih =>
      intro h
      rw [List.map_cons, List.find?_cons]
      by_cases e : z = x
      · subst e; rw [decide_eq_true rfl]
      · rw [decide_eq_false e]
        exact ih ((List.mem_cons.1 h).resolve_left fun h => e h.symm)
  rw [this _ hx]
theorem needS_ok {l : List Df} {act : List Int} {i : Nat} (h : (refsE (lF dD l i).body).all (fun e => (meanI l act e).isSome) = true) : needS l act i = (needL l act (refsE (lF dD l i).body), 0) := by unfold needS; rw [if_pos h]
theorem needS_no {l : List Df} {act : List Int} {i : Nat} (h : (refsE (lF dD l i).body).all (fun e => (meanI l act e).isSome) = false) : needS l act i = ([], 7) := by unfold needS; rw [if_neg (by rw [h]; decide)]
theorem needL_len {l : List Df} {act : List Int} {R : List Ex} : (needL l act R).length ≤ act.length := List.length_filter_le _ _
theorem wR_upd {τ : Nat → Option Nat} {n i j : Nat} {W : Nat → List Int} {p : PV} (hj : j = i) (hp : p = sV (W i)) : RowEq (Row.ren τ ⟨.own, false, n, 1, updR (fun a _ => if a < i then sV (W a) else nilX) j [p]⟩) (wR n (i + 1) W) := by
  subst hj hp
  refine ⟨rfl, rfl, Nat.le_refl _, fun a ha b hb => ?_⟩
  have hb : b < 1 := hb
  obtain rfl : b = 0 := by omega
  show PEq ((updR (fun a _ => if a < j then sV (W a) else nilX) j [sV (W j)] a 0).ren τ) (if a < j + 1 then sV (W a) else nilX)
  unfold updR
  by_cases e : a = j
  · subst e
    rw [show Nat.beq a a = true from Nat.beq_refl _, if_pos (by omega)]; exact PEq.refl _
  · have e2 : Nat.beq a j = false := by cases hb2 : Nat.beq a j; rfl; exact absurd (Nat.eq_of_beq_eq_true hb2) e
    rw [e2]
    show PEq ((if a < j then sV (W a) else nilX : PV).ren τ) _
    by_cases e3 : a < j
    · rw [if_pos e3, if_pos (by omega)]; exact PEq.refl _
    · rw [if_neg e3, if_neg (by omega)]; exact PEq.refl _
theorem wR_all {τ : Nat → Option Nat} {n : Nat} {W : Nat → List Int} : RowEq (Row.ren τ (wR n n W)) (oRow cSl 1 n W) := ⟨rfl, rfl, Nat.le_refl _, fun a ha b hb => by
  have ha : a < n := ha
  have hb : b < 1 := hb
  obtain rfl : b = 0 := by omega
  show PEq ((if a < n then sV (W a) else nilX : PV).ren τ) (sV (W a))
  rw [if_pos ha]; exact PEq.refl _⟩
theorem needsI_c (nm : ByteArray) (l : List Df) (act : List Int) (x : Int) (hx : 0 ≤ x ∧ x < l.length) (hl : l.length ≤ 1000000) (ha : act.length ≤ 1000000) (hin : ∀ x, x ∈ act → 0 ≤ x ∧ x < l.length) (hb : BodyOk (lF dD l x.toNat)) : PureC G.P 51 [vA nm l, sV act, vi x] (fun r => r = .tup 2 (nthP [sV (needL l act (refsE (lF dD l x.toNat).body)), vb ((refsE (lF dD l x.toNat).body).all (fun e => (meanI l act e).isSome))])) := by
  have := needs21_c nm l act x.toNat (by omega) hl ha hin hb
  rwa [Int.toNat_of_nonneg hx.1] at this
set_option maxHeartbeats 16000000 in
theorem Order21_c (nm : ByteArray) (l : List Df) (day : Int) (h : AgO nm l) (hl : l.length ≤ 900000) : PureC G.P 29 [vA nm l, vi day] (fun r => r = .tup 2 (nthP [sV (OrdS nm l day).1, vi (OrdS nm l day).2])) := by
  have cv := valid18_c nm l h.nm h.bd
  have cd := inDays_c day
  have cA := Active21_c nm l day h (by omega)
  have hck := chk_days (nm := nm) (l := l) (day := day)
  cases ha : agrS nm l with
  | false =>
    rw [ha] at hck cv
    have hck : chkE nm l day = 1 := hck
    have hN : OrdS nm l day = ([], 1) := by unfold OrdS gErr; rw [hck]; rfl
    rw [hN]
    refine pure_of (G := G.toPg) (fn := Tryz.f29) Tryz.func29 rfl rfl rfl ?_; intro Γ hk
    repeat' (first | refine gg ?_ | exact trivial | with_reducible refine wA ?_ ?_ | refine Y2.mk ?_ ?_ | refine zz cv ?_ | refine gh ?_ | exact qq | fail)
    refine xdone ?_
    exact kret [] rfl ⟨trivial, trivial, trivial⟩ (qs := [.vsl 0 1 (tI (lF 0 [])), vi 1]) ⟨argNil, argVal, trivial⟩ rfl
  | true =>
    rw [ha] at hck cv
    cases hd : dayS day with
    | false =>
      rw [hd] at hck cd
      have hck : chkE nm l day = 2 := hck
      have hN : OrdS nm l day = ([], 2) := by unfold OrdS gErr; rw [hck]; rfl
      rw [hN]
      refine pure_of (G := G.toPg) (fn := Tryz.f29) Tryz.func29 rfl rfl rfl ?_; intro Γ hk
      repeat' (first | refine gg ?_ | exact trivial | with_reducible refine wA ?_ ?_ | refine Y2.mk ?_ ?_ | refine zz cv ?_ | refine zz cd ?_ | refine gh ?_ | exact qq | fail)
      refine xdone ?_
      exact kret [] rfl ⟨trivial, trivial, trivial⟩ (qs := [.vsl 0 1 (tI (lF 0 [])), vi 2]) ⟨argNil, argVal, trivial⟩ rfl
    | true =>
      rw [hd] at hck cd
      have hck : chkE nm l day = 0 := hck
      have hAS : ActS nm l day = actL l day := by unfold ActS; rw [hck]; rfl
      rw [hAS] at cA
      obtain ⟨A, hAe⟩ : ∃ A, actL l day = A := ⟨_, rfl⟩
      have hgE : gErr nm l day = if (nodL l A).all (fun x => decide ((needS l A x.toNat).2 = 0)) = true then 0 else 7 := by unfold gErr; rw [hck, hAe]; rfl
      have hO : OrdS nm l day = if gErr nm l day ≠ 0 then ([], gErr nm l day) else ordF (nodL l A) (mapL l A (nodL l A)) (nodL l A).length [] := by
        unfold OrdS
        show (if gErr nm l day ≠ 0 then _ else ordF (nodL l (actL l day)) (mapL l (actL l day) (nodL l (actL l day))) (nodL l (actL l day)).length []) = _
        rw [hAe]
      rw [hO, hgE]
      have hAl := actL_len l day
      have hin := actL_in (l := l) (day := day)
      rw [hAe] at cA hAl hin
      have cR := routines21_c nm l A (by omega) (by omega) hin
      have hNl : (nodL l A).length ≤ l.length := Nat.le_trans (List.length_filter_le _ _) hAl
      have hNm : ∀ x, x ∈ nodL l A → x ∈ A ∧ comp (lF dD l x.toNat) = true := fun x hx => List.mem_filter.1 hx
      generalize nodL l A = N at *
      have hNx : ∀ a, a < N.length → lF 0 N a ∈ A ∧ comp (lF dD l (lF 0 N a).toNat) = true ∧ 0 ≤ lF 0 N a ∧ lF 0 N a < l.length := fun a ha2 => by
        have h1 := hNm (lF 0 N a) (by rw [lF_get' ha2]; exact List.getElem_mem ha2)
        exact ⟨h1.1, h1.2, hin _ h1.1⟩
      obtain ⟨W, hW⟩ : ∃ W : Nat → List Int, W = fun a => needL l A (refsE (lF dD l (lF 0 N a).toNat).body) := ⟨_, rfl⟩
      have hWl : ∀ a, (W a).length ≤ l.length := fun a => by rw [hW]; exact Nat.le_trans needL_len hAl
      refine pure_of (G := G.toPg) (fn := Tryz.f29) Tryz.func29 rfl rfl rfl ?_; intro Γ hk
      repeat' (first | refine gg ?_ | exact trivial | with_reducible refine wA ?_ ?_ | refine Y2.mk ?_ ?_ | (refine pop_callc [] rfl rfl rfl rfl rfl rfl (fun _ h => by cases h) (cA) (args_cl _ rfl) ?_; rintro _ rfl) | (refine pop_callc [] rfl rfl rfl rfl rfl rfl (fun _ h => by cases h) (cR) (args_cl _ rfl) ?_; rintro _ rfl) | (exact ⟨by omega, by omega, by omega, by show (_ : Int) * 24 ≤ _; omega⟩) | refine zz cv ?_ | refine zz cd ?_ | refine gh ?_ | exact qq | fail)
      refine pcan (st' := ⟨[(2, .ptr 0 0 0), (6, sV A), (7, sV N), (8, .lsl 1 0 N.length), (9, vi ((0 : Nat) : Int))], [rA1 nm l, wR N.length 0 W]⟩) (can_rowsv [0, 1] (k0_sel hk rfl) rfl (.cons rfl (RowEq.cl (rA1_cl _ _)) (.cons rfl (wR_zero fun a ha => rfl) .nil)) tmq) ?_
      refine ploop (fun z st => ∃ i : Nat, i ≤ N.length ∧ (∀ a, a < i → (needS l A (lF 0 N a).toNat).2 = 0) ∧ z = N.length - i ∧ st = ⟨[(2, .ptr 0 0 0), (6, sV A), (7, sV N), (8, .lsl 1 0 N.length), (9, vi i)], [rA1 nm l, wR N.length i W]⟩) N.length ⟨0, by omega, fun a ha => absurd ha (Nat.not_lt_zero a), by omega, rfl⟩ ?_
      rintro _ _ ⟨i, hi, hv, rfl, rfl⟩
      have hw1 : IntKind.i64.wrap ((i : Int) + 1) = ((i + 1 : Nat) : Int) := w64 (by omega) (by omega)
      repeat' (first | refine gg ?_ | exact trivial | with_reducible refine wA ?_ ?_ | refine Y2.mk ?_ ?_ | refine gh ?_ | exact qq | fail)
      refine pcond rfl ?_ ?_ <;> intro hc
      · have hc : i < N.length := by have := of_decide_eq_true hc; omega
        obtain ⟨x1, x2, x3⟩ := hNx i hc
        have hx : lF 0 N i ∈ N := by rw [lF_get' hc]; exact List.getElem_mem hc
        have cn := needsI_c nm l A (lF 0 N i) x3 (by omega) (by omega) hin (h.body ha (by omega) x2)
        cases hall : (refsE (lF dD l (lF 0 N i).toNat).body).all (fun e => (meanI l A e).isSome) with
        | true =>
          rw [hall] at cn
          repeat' (first | refine gg ?_ | exact trivial | with_reducible refine wA ?_ ?_ | refine Y2.mk ?_ ?_ | refine xs_start (id := 11) true [.take 0, .take 1, .take 2, .take 3, .take 4, .take 5, .one 6, .take 7, .take 8, .take 9, .take 10, .take 11] 0 rfl rfl (by kernel_rfl) ?_ | (refine xs_one (ch := []) rfl rfl rfl (pst_rowsc [] rfl rfl rfl rfl rfl rfl .nil (pure_rows (cn)) (by exact ⟨PEq.cl _ (clB_spec _ rfl), PEq.cl _ (clB_spec _ rfl), PEq.cl _ (clB_spec _ rfl), trivial⟩) ?_); rintro r rows ⟨rfl, rfl⟩; refine ⟨_, _, rfl, trivial, rfl, ?_⟩) | (exact (show 0 + (i : Int).toNat < N.length by omega)) | refine gh ?_ | exact qq | fail)
          refine xdone ?_
          rw [hw1]
          exact kloop_next (st' := ⟨[(2, .ptr 0 0 0), (6, sV A), (7, sV N), (8, .lsl 1 0 N.length), (9, vi ((i + 1 : Nat) : Int))], [rA1 nm l, wR N.length (i + 1) W]⟩) (N.length - (i + 1)) (can_rowsv [0, 1] (k0_sel hk rfl) rfl (.cons rfl (RowEq.cl (rA1_cl _ _)) (.cons rfl (wR_upd (Nat.zero_add _) (by rw [hW])) .nil)) tmq) (by omega) ⟨i + 1, by omega, fun a ha => by
            by_cases e : a = i
            · subst e; rw [needS_ok hall]
            · exact hv a (by omega), rfl, rfl⟩
        | false =>
          rw [hall] at cn
          repeat' (first | refine gg ?_ | exact trivial | with_reducible refine wA ?_ ?_ | refine Y2.mk ?_ ?_ | refine xs_start (id := 11) true [.take 0, .take 1, .take 2, .take 3, .take 4, .take 5, .one 6, .take 7, .take 8, .take 9, .take 10, .take 11] 0 rfl rfl (by kernel_rfl) ?_ | (refine xs_one (ch := []) rfl rfl rfl (pst_rowsc [] rfl rfl rfl rfl rfl rfl .nil (pure_rows (cn)) (by exact ⟨PEq.cl _ (clB_spec _ rfl), PEq.cl _ (clB_spec _ rfl), PEq.cl _ (clB_spec _ rfl), trivial⟩) ?_); rintro r rows ⟨rfl, rfl⟩; refine ⟨_, _, rfl, trivial, rfl, ?_⟩) | refine gh ?_ | exact qq | fail)
          refine xdone ?_
          have hE : (if (N.all fun x => decide ((needS l A x.toNat).2 = 0)) = true then (0 : Int) else 7) = 7 := if_neg (fun hh => by
            have := of_decide_eq_true (List.all_eq_true.1 hh _ hx)
            rw [needS_no hall] at this; exact absurd this (by decide))
          rw [hE, if_pos (by decide)]
          exact kret [] rfl ⟨trivial, trivial, trivial⟩ (qs := [.vsl 0 1 (tI (lF 0 [])), vi 7]) ⟨argNil, argVal, trivial⟩ rfl
      · have hil : i = N.length := by have := of_decide_eq_false hc; omega
        subst hil
        rw [if_pos (List.all_eq_true.2 fun x hx => by
          obtain ⟨a, ha2, rfl⟩ := List.getElem_of_mem hx
          rw [← lF_get' ha2]; exact decide_eq_true (hv a ha2)), if_neg (by decide)]
        have hrd : ∀ (out : List Int) (a : Nat), a < N.length → rdyB (mapL l A N) out (lF 0 N a) = (!decide (lF 0 N a ∈ out) && (W a).all fun y => decide (y ∈ out)) := fun out a ha2 => by
          have hm : lF 0 N a ∈ N := by rw [lF_get' ha2]; exact List.getElem_mem ha2
          have hall : (refsE (lF dD l (lF 0 N a).toNat).body).all (fun e => (meanI l A e).isSome) = true := by
            cases hall : (refsE (lF dD l (lF 0 N a).toNat).body).all (fun e => (meanI l A e).isSome) with
            | true => rfl
            | false => have := hv a ha2; rw [needS_no hall] at this; exact absurd this (by decide)
          unfold rdyB
          rw [sget_mapL hm, needS_ok hall, hW]
        repeat' (first | refine gg ?_ | exact trivial | with_reducible refine wA ?_ ?_ | refine Y2.mk ?_ ?_ | refine gh ?_ | exact qq | fail)
        refine pcan (st' := ⟨[(7, sV N), (8, .lsl 0 0 N.length), (12, nilX)], [oRow cSl 1 N.length W]⟩) (can_rowsv [1] (k0_sel hk rfl) rfl (.cons rfl wR_all .nil) tmq) ?_
        refine pcan ((can_frz [0] (by intro l hl; rw [hk]; exact Nat.zero_le _) rfl (tm := [(7, sV N), (8, .vsl N.length 1 (tF cSl W)), (12, nilX)]) (by exact ⟨.inl rfl, .inr (arg_o (s := .own) cSl_cl rfl trivial (List.Mem.head _)), .inl rfl, trivial⟩)).trans ((can_virt (vRow c1 1 0 (lF 0 [])) rfl).trans (can_rowsv [1] (rows := [vRow c1 1 0 (lF 0 [])]) (tm := [(7, sV N), (8, .vsl N.length 1 (tF cSl W)), (12, slP 0 0)]) (k0_sel hk rfl) rfl (.cons rfl (RowEq.cl (v_cl c1_cl _ _ _)) .nil) tmq))) ?_
        refine ploop (fun z st => ∃ (k f : Nat) (out : List Int), out.length = k ∧ k + f = N.length ∧ ordF N (mapL l A N) N.length [] = ordF N (mapL l A N) f out ∧ z = f ∧ st = ⟨[(7, sV N), (8, .vsl N.length 1 (tF cSl W)), (12, slP k 0)], [vRow c1 1 k (lF 0 out)]⟩) N.length ⟨0, N.length, [], rfl, Nat.zero_add _, rfl, rfl, rfl⟩ ?_
        rintro z _ ⟨k, f, out, hok, hkf, hof, hz, rfl⟩
        have hz := hz.symm
        subst hz
        rw [hof]
        rcases k with _ | k
        · repeat' (first | refine gg ?_ | exact trivial | with_reducible refine wA ?_ ?_ | refine Y2.mk ?_ ?_ | refine gh ?_ | exact qq | fail)
          refine pcond rfl ?_ ?_ <;> intro hc
          · have hc : 0 < N.length := by have : ((0 : Nat) : Int) < (N.length : Int) := of_decide_eq_true hc; omega
            repeat' (first | refine gg ?_ | exact trivial | with_reducible refine wA ?_ ?_ | refine Y2.mk ?_ ?_ | refine gh ?_ | exact qq | fail)
            refine pcan (st' := ⟨[(7, sV N), (8, .vsl N.length 1 (tF cSl W)), (12, slP 0 0), (13, vi ((0 : Nat) : Int))], [vRow c1 1 0 (lF 0 out)]⟩) (can_rowsv [0] (k0_sel hk rfl) rfl (.cons rfl (RowEq.cl (v_cl c1_cl _ _ _)) .nil) tmq) ?_
            refine ploop (fun z st => ∃ i : Nat, i ≤ N.length ∧ (∀ j, j < i → rdyB (mapL l A N) out (lF 0 N j) = false) ∧ z = N.length - i ∧ st = ⟨[(7, sV N), (8, .vsl N.length 1 (tF cSl W)), (12, slP 0 0), (13, vi i)], [vRow c1 1 0 (lF 0 out)]⟩) N.length ⟨0, Nat.zero_le _, fun j hj => absurd hj (Nat.not_lt_zero j), rfl, rfl⟩ ?_
            rintro _ _ ⟨i, hi, hvi, rfl, rfl⟩
            have hw1 : IntKind.i64.wrap ((i : Int) + 1) = ((i + 1 : Nat) : Int) := w64 (by omega) (by omega)
            by_cases hci : i < N.length
            · have hd1 : decide ((i : Int) < (N.length : Int)) = true := decide_eq_true (by omega)
              have hri := hrd out i hci
              have ch := has_c out (lF 0 N i) (by omega)
              have cy := ready_c out (W i) (by omega) (Nat.le_trans (hWl i) (by omega))
              have hout : sV out = .vsl 0 1 (tI (lF 0 out)) := by show PV.vsl _ _ _ = _; rw [hok]
              rw [hout] at ch cy
              by_cases hm : lF 0 N i ∈ out
              · rw [decide_eq_true hm] at ch hri
                repeat' (first | refine gg ?_ | exact trivial | with_reducible refine wA ?_ ?_ | refine Y2.mk ?_ ?_ | refine gh ?_ | exact qq | fail)
                rw [hd1]
                refine pop_opt 61 rfl rfl ?_
                refine pop_opt 65 rfl rfl ?_
                refine pop_unguard rfl rfl ?_
                refine pop_call [0] rfl rfl rfl rfl rfl ch (by exact ⟨argTI (arg_v (n := 0) (l := 0) c1_cl rfl (List.Mem.head _)), argVal, trivial⟩) ?_
                rintro _ rfl
                refine ⟨scB_spec _ rfl, ?_⟩
                repeat' (first | refine gg ?_ | exact trivial | with_reducible refine wA ?_ ?_ | refine Y2.mk ?_ ?_ | (intro hh; exact absurd hh (by decide)) | (refine pop_gfalse rfl rfl rfl rfl ?_) | refine gh ?_ | exact qq | fail)
                refine xdone ?_
                rw [hw1]
                exact kloop_next (st' := ⟨[(7, sV N), (8, .vsl N.length 1 (tF cSl W)), (12, slP 0 0), (13, vi ((i + 1 : Nat) : Int))], [vRow c1 1 0 (lF 0 out)]⟩) (N.length - (i + 1)) (can_rowsv [0] (k0_sel hk rfl) rfl (.cons rfl (RowEq.cl (v_cl c1_cl _ _ _)) .nil) tmq) (by omega) ⟨i + 1, by omega, fun j hj => by
                  by_cases e : j = i
                  · subst e; exact hri
                  · exact hvi j (by omega), rfl, rfl⟩
              · rw [decide_eq_false hm] at ch hri
                cases hal : (W i).all fun y => decide (y ∈ out) with
                | false =>
                  rw [hal] at cy hri
                  repeat' (first | refine gg ?_ | exact trivial | with_reducible refine wA ?_ ?_ | refine Y2.mk ?_ ?_ | refine gh ?_ | exact qq | fail)
                  rw [hd1]
                  refine pop_opt 61 rfl rfl ?_
                  refine pop_opt 65 rfl rfl ?_
                  refine pop_unguard rfl rfl ?_
                  refine pop_call [0] rfl rfl rfl rfl rfl ch (by exact ⟨argTI (arg_v (n := 0) (l := 0) c1_cl rfl (List.Mem.head _)), argVal, trivial⟩) ?_
                  rintro _ rfl
                  refine ⟨scB_spec _ rfl, ?_⟩
                  repeat' (first | refine gg ?_ | exact trivial | with_reducible refine wA ?_ ?_ | refine Y2.mk ?_ ?_ | refine gh ?_ | exact qq | fail)
                  refine pop_opt 68 rfl rfl ?_
                  refine pop_opt 72 rfl rfl ?_
                  refine pop_unguard rfl rfl ?_
                  refine pop_call [0] rfl rfl rfl rfl rfl cy (by exact ⟨argTI (arg_v (n := 0) (l := 0) c1_cl rfl (List.Mem.head _)), argCl (clB_spec _ rfl), trivial⟩) ?_
                  rintro _ rfl
                  refine ⟨scB_spec _ rfl, ?_⟩
                  repeat' (first | refine gg ?_ | exact trivial | with_reducible refine wA ?_ ?_ | refine Y2.mk ?_ ?_ | refine gh ?_ | exact qq | fail)
                  refine xdone ?_
                  rw [hw1]
                  exact kloop_next (st' := ⟨[(7, sV N), (8, .vsl N.length 1 (tF cSl W)), (12, slP 0 0), (13, vi ((i + 1 : Nat) : Int))], [vRow c1 1 0 (lF 0 out)]⟩) (N.length - (i + 1)) (can_rowsv [0] (k0_sel hk rfl) rfl (.cons rfl (RowEq.cl (v_cl c1_cl _ _ _)) .nil) tmq) (by omega) ⟨i + 1, by omega, fun j hj => by
                    by_cases e : j = i
                    · subst e; exact hri
                    · exact hvi j (by omega), rfl, rfl⟩
                | true =>
                  rw [hal] at cy hri
                  repeat' (first | refine gg ?_ | exact trivial | with_reducible refine wA ?_ ?_ | refine Y2.mk ?_ ?_ | refine gh ?_ | exact qq | fail)
                  rw [hd1]
                  refine pop_opt 61 rfl rfl ?_
                  refine pop_opt 65 rfl rfl ?_
                  refine pop_unguard rfl rfl ?_
                  refine pop_call [0] rfl rfl rfl rfl rfl ch (by exact ⟨argTI (arg_v (n := 0) (l := 0) c1_cl rfl (List.Mem.head _)), argVal, trivial⟩) ?_
                  rintro _ rfl
                  refine ⟨scB_spec _ rfl, ?_⟩
                  repeat' (first | refine gg ?_ | exact trivial | with_reducible refine wA ?_ ?_ | refine Y2.mk ?_ ?_ | refine gh ?_ | exact qq | fail)
                  refine pop_opt 68 rfl rfl ?_
                  refine pop_opt 72 rfl rfl ?_
                  refine pop_unguard rfl rfl ?_
                  refine pop_call [0] rfl rfl rfl rfl rfl cy (by exact ⟨argTI (arg_v (n := 0) (l := 0) c1_cl rfl (List.Mem.head _)), argCl (clB_spec _ rfl), trivial⟩) ?_
                  rintro _ rfl
                  refine ⟨scB_spec _ rfl, ?_⟩
                  have hfd : N.find? (rdyB (mapL l A N) out) = some (lF 0 N i) := find_lF hci hvi hri
                  obtain ⟨f, rfl⟩ : ∃ f', f = f' + 1 := ⟨f - 1, by omega⟩
                  rw [ordF_yes hfd]
                  repeat' (first | refine gg ?_ | exact trivial | with_reducible refine wA ?_ ?_ | refine Y2.mk ?_ ?_ | refine gh ?_ | exact qq | fail)
                  refine pcond (b := false) ?_ ?_ ?_
                  · refine eqB ?_
                    show ((i : Int) == (N.length : Int)) = false
                    simp; omega
                  · intro h5; cases h5
                  · intro h5
                    repeat' (first | refine gg ?_ | exact trivial | with_reducible refine wA ?_ ?_ | refine Y2.mk ?_ ?_ | exact ⟨Nat.le_refl _, (by rw [hk]; exact Nat.le_of_ble_eq_true rfl), Nat.le_of_eq (Nat.zero_add _), (show (_ : Nat) * 8 ≤ 140737488355328 from by omega), (show (_ : Nat) ≤ 9223372036854775807 from by omega)⟩ | (exact (show (_ : Nat) < _ by omega)) | refine gh ?_ | exact qq | fail)
                    refine xdone ?_
                    exact kloop_next (st' := ⟨[(7, sV N), (8, .vsl N.length 1 (tF cSl W)), (12, slP (0 + 1) 0)], [vRow c1 1 (0 + 1) (lF 0 (out ++ [lF 0 N i]))]⟩) f (can_rowsv [2] (k0_sel hk rfl) rfl (.cons rfl (app_l0 c1_cl hok rfl) .nil) tmq) (by omega) ⟨0 + 1, f, _, by rw [List.length_append, hok]; rfl, by omega, rfl, rfl, rfl⟩
            · have hiN : i = N.length := by omega
              subst hiN
              have hd1 : decide ((N.length : Int) < (N.length : Int)) = false := decide_eq_false (by omega)
              have hfd : N.find? (rdyB (mapL l A N) out) = none := find_lno hvi
              obtain ⟨f, rfl⟩ : ∃ f', f = f' + 1 := ⟨f - 1, by omega⟩
              rw [ordF_no hfd]
              repeat' (first | refine gg ?_ | exact trivial | with_reducible refine wA ?_ ?_ | refine Y2.mk ?_ ?_ | (intro hh; rw [hd1] at hh; exact absurd hh (by decide)) | refine gh ?_ | exact qq | fail)
              rw [hd1]
              repeat' (first | refine gg ?_ | exact trivial | with_reducible refine wA ?_ ?_ | refine Y2.mk ?_ ?_ | (refine pop_gfB rfl rfl rfl rfl ?_) | (intro hh; exact absurd hh (by decide)) | refine gh ?_ | exact qq | fail)
              refine pcond (b := true) ?_ ?_ ?_
              · refine eqB ?_
                exact beq_self_eq_true _
              · intro h5
                repeat' (first | refine gg ?_ | exact trivial | with_reducible refine wA ?_ ?_ | refine Y2.mk ?_ ?_ | refine gh ?_ | exact qq | fail)
                refine xdone ?_
                exact kret [] rfl ⟨trivial, trivial, trivial⟩ (qs := [.vsl 0 1 (tI (lF 0 [])), vi 11]) ⟨argNil, argVal, trivial⟩ rfl
              · intro h5; cases h5
          · have hc : N.length ≤ 0 := by have : ¬ ((0 : Nat) : Int) < (N.length : Int) := of_decide_eq_false hc; omega
            obtain rfl : f = 0 := by omega
            repeat' (first | refine gg ?_ | exact trivial | with_reducible refine wA ?_ ?_ | refine Y2.mk ?_ ?_ | refine gh ?_ | exact qq | fail)
            refine xdone ?_
            refine kret [0] rfl ⟨trivial, trivial, trivial⟩ (qs := [.vsl 0 1 (tI (lF 0 out)), vi 0]) ⟨argTI (arg_v (n := 0) (l := 0) c1_cl rfl (List.Mem.head _)), argVal, trivial⟩ ?_
            rw [show ordF N (mapL l A N) 0 out = (out, 0) from rfl, show sV out = .vsl 0 1 (tI (lF 0 out)) from by show PV.vsl _ _ _ = _; rw [hok]]; rfl
        · repeat' (first | refine gg ?_ | exact trivial | with_reducible refine wA ?_ ?_ | refine Y2.mk ?_ ?_ | refine gh ?_ | exact qq | fail)
          refine pcond rfl ?_ ?_ <;> intro hc
          · have hc : (k + 1) < N.length := by have : (((k + 1) : Nat) : Int) < (N.length : Int) := of_decide_eq_true hc; omega
            repeat' (first | refine gg ?_ | exact trivial | with_reducible refine wA ?_ ?_ | refine Y2.mk ?_ ?_ | refine gh ?_ | exact qq | fail)
            refine pcan (st' := ⟨[(7, sV N), (8, .vsl N.length 1 (tF cSl W)), (12, slP (k + 1) 0), (13, vi ((0 : Nat) : Int))], [vRow c1 1 (k + 1) (lF 0 out)]⟩) (can_rowsv [0] (k0_sel hk rfl) rfl (.cons rfl (RowEq.cl (v_cl c1_cl _ _ _)) .nil) tmq) ?_
            refine ploop (fun z st => ∃ i : Nat, i ≤ N.length ∧ (∀ j, j < i → rdyB (mapL l A N) out (lF 0 N j) = false) ∧ z = N.length - i ∧ st = ⟨[(7, sV N), (8, .vsl N.length 1 (tF cSl W)), (12, slP (k + 1) 0), (13, vi i)], [vRow c1 1 (k + 1) (lF 0 out)]⟩) N.length ⟨0, Nat.zero_le _, fun j hj => absurd hj (Nat.not_lt_zero j), rfl, rfl⟩ ?_
            rintro _ _ ⟨i, hi, hvi, rfl, rfl⟩
            have hw1 : IntKind.i64.wrap ((i : Int) + 1) = ((i + 1 : Nat) : Int) := w64 (by omega) (by omega)
            by_cases hci : i < N.length
            · have hd1 : decide ((i : Int) < (N.length : Int)) = true := decide_eq_true (by omega)
              have hri := hrd out i hci
              have ch := has_c out (lF 0 N i) (by omega)
              have cy := ready_c out (W i) (by omega) (Nat.le_trans (hWl i) (by omega))
              have hout : sV out = .vsl (k + 1) 1 (tI (lF 0 out)) := by show PV.vsl _ _ _ = _; rw [hok]
              rw [hout] at ch cy
              by_cases hm : lF 0 N i ∈ out
              · rw [decide_eq_true hm] at ch hri
                repeat' (first | refine gg ?_ | exact trivial | with_reducible refine wA ?_ ?_ | refine Y2.mk ?_ ?_ | refine gh ?_ | exact qq | fail)
                rw [hd1]
                refine pop_opt 61 rfl rfl ?_
                refine pop_opt 65 rfl rfl ?_
                refine pop_unguard rfl rfl ?_
                refine pop_call [0] rfl rfl rfl rfl rfl ch (by exact ⟨argTI (arg_v (n := (k + 1)) (l := 0) c1_cl rfl (List.Mem.head _)), argVal, trivial⟩) ?_
                rintro _ rfl
                refine ⟨scB_spec _ rfl, ?_⟩
                repeat' (first | refine gg ?_ | exact trivial | with_reducible refine wA ?_ ?_ | refine Y2.mk ?_ ?_ | (intro hh; exact absurd hh (by decide)) | (refine pop_gfalse rfl rfl rfl rfl ?_) | refine gh ?_ | exact qq | fail)
                refine xdone ?_
                rw [hw1]
                exact kloop_next (st' := ⟨[(7, sV N), (8, .vsl N.length 1 (tF cSl W)), (12, slP (k + 1) 0), (13, vi ((i + 1 : Nat) : Int))], [vRow c1 1 (k + 1) (lF 0 out)]⟩) (N.length - (i + 1)) (can_rowsv [0] (k0_sel hk rfl) rfl (.cons rfl (RowEq.cl (v_cl c1_cl _ _ _)) .nil) tmq) (by omega) ⟨i + 1, by omega, fun j hj => by
                  by_cases e : j = i
                  · subst e; exact hri
                  · exact hvi j (by omega), rfl, rfl⟩
              · rw [decide_eq_false hm] at ch hri
                cases hal : (W i).all fun y => decide (y ∈ out) with
                | false =>
                  rw [hal] at cy hri
                  repeat' (first | refine gg ?_ | exact trivial | with_reducible refine wA ?_ ?_ | refine Y2.mk ?_ ?_ | refine gh ?_ | exact qq | fail)
                  rw [hd1]
                  refine pop_opt 61 rfl rfl ?_
                  refine pop_opt 65 rfl rfl ?_
                  refine pop_unguard rfl rfl ?_
                  refine pop_call [0] rfl rfl rfl rfl rfl ch (by exact ⟨argTI (arg_v (n := (k + 1)) (l := 0) c1_cl rfl (List.Mem.head _)), argVal, trivial⟩) ?_
                  rintro _ rfl
                  refine ⟨scB_spec _ rfl, ?_⟩
                  repeat' (first | refine gg ?_ | exact trivial | with_reducible refine wA ?_ ?_ | refine Y2.mk ?_ ?_ | refine gh ?_ | exact qq | fail)
                  refine pop_opt 68 rfl rfl ?_
                  refine pop_opt 72 rfl rfl ?_
                  refine pop_unguard rfl rfl ?_
                  refine pop_call [0] rfl rfl rfl rfl rfl cy (by exact ⟨argTI (arg_v (n := (k + 1)) (l := 0) c1_cl rfl (List.Mem.head _)), argCl (clB_spec _ rfl), trivial⟩) ?_
                  rintro _ rfl
                  refine ⟨scB_spec _ rfl, ?_⟩
                  repeat' (first | refine gg ?_ | exact trivial | with_reducible refine wA ?_ ?_ | refine Y2.mk ?_ ?_ | refine gh ?_ | exact qq | fail)
                  refine xdone ?_
                  rw [hw1]
                  exact kloop_next (st' := ⟨[(7, sV N), (8, .vsl N.length 1 (tF cSl W)), (12, slP (k + 1) 0), (13, vi ((i + 1 : Nat) : Int))], [vRow c1 1 (k + 1) (lF 0 out)]⟩) (N.length - (i + 1)) (can_rowsv [0] (k0_sel hk rfl) rfl (.cons rfl (RowEq.cl (v_cl c1_cl _ _ _)) .nil) tmq) (by omega) ⟨i + 1, by omega, fun j hj => by
                    by_cases e : j = i
                    · subst e; exact hri
                    · exact hvi j (by omega), rfl, rfl⟩
                | true =>
                  rw [hal] at cy hri
                  repeat' (first | refine gg ?_ | exact trivial | with_reducible refine wA ?_ ?_ | refine Y2.mk ?_ ?_ | refine gh ?_ | exact qq | fail)
                  rw [hd1]
                  refine pop_opt 61 rfl rfl ?_
                  refine pop_opt 65 rfl rfl ?_
                  refine pop_unguard rfl rfl ?_
                  refine pop_call [0] rfl rfl rfl rfl rfl ch (by exact ⟨argTI (arg_v (n := (k + 1)) (l := 0) c1_cl rfl (List.Mem.head _)), argVal, trivial⟩) ?_
                  rintro _ rfl
                  refine ⟨scB_spec _ rfl, ?_⟩
                  repeat' (first | refine gg ?_ | exact trivial | with_reducible refine wA ?_ ?_ | refine Y2.mk ?_ ?_ | refine gh ?_ | exact qq | fail)
                  refine pop_opt 68 rfl rfl ?_
                  refine pop_opt 72 rfl rfl ?_
                  refine pop_unguard rfl rfl ?_
                  refine pop_call [0] rfl rfl rfl rfl rfl cy (by exact ⟨argTI (arg_v (n := (k + 1)) (l := 0) c1_cl rfl (List.Mem.head _)), argCl (clB_spec _ rfl), trivial⟩) ?_
                  rintro _ rfl
                  refine ⟨scB_spec _ rfl, ?_⟩
                  have hfd : N.find? (rdyB (mapL l A N) out) = some (lF 0 N i) := find_lF hci hvi hri
                  obtain ⟨f, rfl⟩ : ∃ f', f = f' + 1 := ⟨f - 1, by omega⟩
                  rw [ordF_yes hfd]
                  repeat' (first | refine gg ?_ | exact trivial | with_reducible refine wA ?_ ?_ | refine Y2.mk ?_ ?_ | refine gh ?_ | exact qq | fail)
                  refine pcond (b := false) ?_ ?_ ?_
                  · refine eqB ?_
                    show ((i : Int) == (N.length : Int)) = false
                    simp; omega
                  · intro h5; cases h5
                  · intro h5
                    repeat' (first | refine gg ?_ | exact trivial | with_reducible refine wA ?_ ?_ | refine Y2.mk ?_ ?_ | exact ⟨Nat.le_refl _, (by rw [hk]; exact Nat.le_of_ble_eq_true rfl), Nat.le_of_eq (Nat.zero_add _), (show (_ : Nat) * 8 ≤ 140737488355328 from by omega), (show (_ : Nat) ≤ 9223372036854775807 from by omega)⟩ | (exact (show (_ : Nat) < _ by omega)) | refine gh ?_ | exact qq | fail)
                    refine xdone ?_
                    exact kloop_next (st' := ⟨[(7, sV N), (8, .vsl N.length 1 (tF cSl W)), (12, slP ((k + 1) + 1) 0)], [vRow c1 1 ((k + 1) + 1) (lF 0 (out ++ [lF 0 N i]))]⟩) f (can_rowsv [2] (k0_sel hk rfl) rfl (.cons rfl (app_l c1_cl hok rfl rfl) .nil) tmq) (by omega) ⟨(k + 1) + 1, f, _, by rw [List.length_append, hok]; rfl, by omega, rfl, rfl, rfl⟩
            · have hiN : i = N.length := by omega
              subst hiN
              have hd1 : decide ((N.length : Int) < (N.length : Int)) = false := decide_eq_false (by omega)
              have hfd : N.find? (rdyB (mapL l A N) out) = none := find_lno hvi
              obtain ⟨f, rfl⟩ : ∃ f', f = f' + 1 := ⟨f - 1, by omega⟩
              rw [ordF_no hfd]
              repeat' (first | refine gg ?_ | exact trivial | with_reducible refine wA ?_ ?_ | refine Y2.mk ?_ ?_ | (intro hh; rw [hd1] at hh; exact absurd hh (by decide)) | refine gh ?_ | exact qq | fail)
              rw [hd1]
              repeat' (first | refine gg ?_ | exact trivial | with_reducible refine wA ?_ ?_ | refine Y2.mk ?_ ?_ | (refine pop_gfB rfl rfl rfl rfl ?_) | (intro hh; exact absurd hh (by decide)) | refine gh ?_ | exact qq | fail)
              refine pcond (b := true) ?_ ?_ ?_
              · refine eqB ?_
                exact beq_self_eq_true _
              · intro h5
                repeat' (first | refine gg ?_ | exact trivial | with_reducible refine wA ?_ ?_ | refine Y2.mk ?_ ?_ | refine gh ?_ | exact qq | fail)
                refine xdone ?_
                exact kret [] rfl ⟨trivial, trivial, trivial⟩ (qs := [.vsl 0 1 (tI (lF 0 [])), vi 11]) ⟨argNil, argVal, trivial⟩ rfl
              · intro h5; cases h5
          · have hc : N.length ≤ (k + 1) := by have : ¬ (((k + 1) : Nat) : Int) < (N.length : Int) := of_decide_eq_false hc; omega
            obtain rfl : f = 0 := by omega
            repeat' (first | refine gg ?_ | exact trivial | with_reducible refine wA ?_ ?_ | refine Y2.mk ?_ ?_ | refine gh ?_ | exact qq | fail)
            refine xdone ?_
            refine kret [0] rfl ⟨trivial, trivial, trivial⟩ (qs := [.vsl (k + 1) 1 (tI (lF 0 out)), vi 0]) ⟨argTI (arg_v (n := (k + 1)) (l := 0) c1_cl rfl (List.Mem.head _)), argVal, trivial⟩ ?_
            rw [show ordF N (mapL l A N) 0 out = (out, 0) from rfl, show sV out = .vsl (k + 1) 1 (tI (lF 0 out)) from by show PV.vsl _ _ _ = _; rw [hok]]; rfl
end Go.Proofs.YtcefhgomkehokaaGreat
namespace Go.Proofs.YtcefhgomkehokaaGreat
def pthC (N : List Int) (W : Nat → List Int) (t : Int) (g : Nat → Int) (L : Int) (i k : Nat) : Bool := decide (lF 0 N k ∈ W i) && (decide (L = 1 ∧ lF 0 N k = t) || decide (1 < L ∧ g k = L - 1))
def pthA (N : List Int) (W : Nat → List Int) (t : Int) (g : Nat → Int) (L : Int) (i K : Nat) : Bool := (List.range K).any (pthC N W t g L i)
def pthG (N : List Int) (W : Nat → List Int) (t : Int) : Nat → Nat → Int
  | 0, _ => 0
  | r + 1, i => if pthG N W t r i ≠ 0 then pthG N W t r i else if pthA N W t (pthG N W t r) (r + 1 : Nat) i N.length = true then (r + 1 : Nat) else 0
theorem pthA_succ {N : List Int} {W : Nat → List Int} {t : Int} {g : Nat → Int} {L : Int} {i K : Nat} : pthA N W t g L i (K + 1) = (pthA N W t g L i K || pthC N W t g L i K) := by
  unfold pthA; rw [List.range_succ, List.any_append]; simp
def pthM (N : List Int) (W : Nat → List Int) (t : Int) (r i a : Nat) : Int := if a < i then pthG N W t (r + 1) a else pthG N W t r a
def pthI (N : List Int) (W : Nat → List Int) (t : Int) (r i K a : Nat) : Int := if a < i then pthG N W t (r + 1) a else if a = i then (if pthA N W t (pthG N W t r) (r + 1 : Nat) i K = true then (r + 1 : Nat) else 0) else pthG N W t r a
theorem pthG_le {N : List Int} {W : Nat → List Int} {t : Int} : ∀ (r a : Nat), 0 ≤ pthG N W t r a ∧ pthG N W t r a ≤ r
  | 0, a => ⟨Int.le_refl _, Int.le_refl _⟩
  | r + 1, a => by
    have := pthG_le (N := N) (W := W) (t := t) r a
    rw [pthG]
    split
    · omega
    · split <;> omega
theorem pthI_at {N : List Int} {W : Nat → List Int} {t : Int} {r i K a : Nat} (h0 : pthG N W t r i = 0) (hr : 1 ≤ r) : decide (pthI N W t r i K a = r) = decide (pthG N W t r a = r) := by
  rw [decide_eq_decide]
  unfold pthI
  split
  · rw [pthG]
    split
    · rfl
    · rename_i h1
      have h1 := Decidable.not_not.1 h1
      rw [h1]
      split <;> omega
  · split
    · rename_i h2
      subst h2
      rw [h0]
      split <;> omega
    · rfl
theorem pthG_succ {N : List Int} {W : Nat → List Int} {t : Int} {r i : Nat} : pthG N W t (r + 1) i = if pthG N W t r i ≠ 0 then pthG N W t r i else if pthA N W t (pthG N W t r) (r + 1 : Nat) i N.length = true then ((r + 1 : Nat) : Int) else 0 := rfl
theorem pthM_skip {N : List Int} {W : Nat → List Int} {t : Int} {r i : Nat} (h : pthG N W t r i ≠ 0) : pthM N W t r (i + 1) = pthM N W t r i := by
  funext a
  unfold pthM
  by_cases e : a = i
  · subst e
    rw [if_pos (Nat.lt_succ_self a), if_neg (Nat.lt_irrefl a), pthG_succ, if_pos h]
  · by_cases e2 : a < i
    · rw [if_pos (by omega), if_pos e2]
    · rw [if_neg (by omega), if_neg e2]
theorem pthI_zero {N : List Int} {W : Nat → List Int} {t : Int} {r i : Nat} (h : pthG N W t r i = 0) : pthI N W t r i 0 = pthM N W t r i := by
  funext a
  show (if a < i then pthG N W t (r + 1) a else if a = i then (if pthA N W t (pthG N W t r) (r + 1 : Nat) i 0 = true then ((r + 1 : Nat) : Int) else 0) else pthG N W t r a) = (if a < i then pthG N W t (r + 1) a else pthG N W t r a)
  by_cases e2 : a < i
  · rw [if_pos e2, if_pos e2]
  · rw [if_neg e2, if_neg e2]
    by_cases e : a = i
    · subst e; rw [if_pos rfl, h]; rfl
    · rw [if_neg e]
theorem pthI_all {N : List Int} {W : Nat → List Int} {t : Int} {r i : Nat} (h : pthG N W t r i = 0) : pthI N W t r i N.length = pthM N W t r (i + 1) := by
  funext a
  show (if a < i then pthG N W t (r + 1) a else if a = i then (if pthA N W t (pthG N W t r) (r + 1 : Nat) i N.length = true then ((r + 1 : Nat) : Int) else 0) else pthG N W t r a) = (if a < i + 1 then pthG N W t (r + 1) a else pthG N W t r a)
  by_cases e2 : a < i
  · rw [if_pos e2, if_pos (by omega)]
  · rw [if_neg e2]
    by_cases e : a = i
    · subst e; rw [if_pos rfl, if_pos (Nat.lt_succ_self a), pthG_succ, if_neg (show ¬ (pthG N W t r a ≠ 0) from fun hh => hh h)]
    · rw [if_neg e, if_neg (by omega)]
theorem pthI_yes {N : List Int} {W : Nat → List Int} {t : Int} {r i K : Nat} (h : pthC N W t (pthG N W t r) (r + 1 : Nat) i K = true) : pthI N W t r i (K + 1) = upd (pthI N W t r i K) i (r + 1 : Nat) := by
  funext a
  show (if a < i then pthG N W t (r + 1) a else if a = i then (if pthA N W t (pthG N W t r) (r + 1 : Nat) i (K + 1) = true then ((r + 1 : Nat) : Int) else 0) else pthG N W t r a) = if a = i then ((r + 1 : Nat) : Int) else if a < i then pthG N W t (r + 1) a else if a = i then (if pthA N W t (pthG N W t r) (r + 1 : Nat) i K = true then ((r + 1 : Nat) : Int) else 0) else pthG N W t r a
  rw [pthA_succ, h, Bool.or_true]
  by_cases e : a = i
  · subst e; rw [if_neg (Nat.lt_irrefl _), if_pos rfl, if_pos rfl, if_pos rfl]
  · rw [if_neg e, if_neg e, if_neg e]
theorem pthI_no {N : List Int} {W : Nat → List Int} {t : Int} {r i K : Nat} (h : pthC N W t (pthG N W t r) (r + 1 : Nat) i K = false) : pthI N W t r i (K + 1) = pthI N W t r i K := by
  unfold pthI
  rw [pthA_succ, h, Bool.or_false]
theorem iupd_eq {τ : Nat → Option Nat} {n j i : Nat} {f : Nat → Int} {x y : Int} (hj : j = i) (hx : x = y) : RowEq (Row.ren τ ⟨.own, false, n, 1, updR (tI f) j [vi x]⟩) (iRow n (upd f i y)) := by
  subst hj hx
  exact i_eq (Nat.le_refl _) fun a ha => upd_eq f j x a 0 rfl
set_option maxHeartbeats 16000000 in
theorem paths21_c (N : List Int) (W : Nat → List Int) (t : Int) (hN : N.length ≤ 900000) (hW : ∀ a, (W a).length ≤ 1000000) : PureC G.P 55 [sV N, .vsl N.length 1 (tF cSl W), vi t] (fun r => r = .vsl N.length 1 (tI (pthG N W t N.length))) := by
  refine pure_of (G := G.toPg) (fn := Tryz.f55) Tryz.func55 rfl rfl rfl ?_; intro Γ hk
  repeat' (first | refine gg ?_ | exact trivial | with_reducible refine wA ?_ ?_ | refine Y2.mk ?_ ?_ | (exact ⟨by omega, by omega, by omega, by show (_ : Int) * 8 ≤ _; omega⟩) | refine gh ?_ | exact qq | fail)
  refine pcan (st' := ⟨[(0, sV N), (1, .vsl N.length 1 (tF cSl W)), (2, vi t), (7, .lsl 0 0 N.length), (8, vi ((0 + 1 : Nat) : Int))], [iRow N.length (pthG N W t 0)]⟩) (can_rowsv [0] (k0_sel hk rfl) rfl (.cons rfl (i_eq (Nat.le_refl _) fun a ha => rfl) .nil) tmq) ?_
  refine ploop (fun z st => ∃ r : Nat, r ≤ N.length ∧ z = N.length - r ∧ st = ⟨[(0, sV N), (1, .vsl N.length 1 (tF cSl W)), (2, vi t), (7, .lsl 0 0 N.length), (8, vi ((r + 1 : Nat) : Int))], [iRow N.length (pthG N W t r)]⟩) N.length ⟨0, Nat.zero_le _, rfl, rfl⟩ ?_
  rintro _ _ ⟨r, hr, rfl, rfl⟩
  have hwr : IntKind.i64.wrap (((r + 1 : Nat) : Int) + 1) = ((r + 1 + 1 : Nat) : Int) := w64 (by omega) (by omega)
  have hwr2 : IntKind.i64.wrap (((r + 1 : Nat) : Int) - 1) = (r : Int) := by rw [w64 (by omega) (by omega)]; omega
  repeat' (first | refine gg ?_ | exact trivial | with_reducible refine wA ?_ ?_ | refine Y2.mk ?_ ?_ | refine gh ?_ | exact qq | fail)
  refine pcond rfl ?_ ?_ <;> intro hc
  · have hc : r + 1 ≤ N.length := by have : ((r + 1 : Nat) : Int) ≤ (N.length : Int) := of_decide_eq_true hc; omega
    repeat' (first | refine gg ?_ | exact trivial | with_reducible refine wA ?_ ?_ | refine Y2.mk ?_ ?_ | refine gh ?_ | exact qq | fail)
    refine pcan (st' := ⟨[(0, sV N), (1, .vsl N.length 1 (tF cSl W)), (2, vi t), (7, .lsl 0 0 N.length), (8, vi ((r + 1 : Nat) : Int)), (9, vi ((0 : Nat) : Int))], [iRow N.length (pthM N W t r 0)]⟩) (can_rowsv [0] (k0_sel hk rfl) rfl (.cons rfl (RowEq.cl (i_cl _ _)) .nil) tmq) ?_
    refine ploop (fun z st => ∃ i : Nat, i ≤ N.length ∧ z = N.length - i ∧ st = ⟨[(0, sV N), (1, .vsl N.length 1 (tF cSl W)), (2, vi t), (7, .lsl 0 0 N.length), (8, vi ((r + 1 : Nat) : Int)), (9, vi i)], [iRow N.length (pthM N W t r i)]⟩) N.length ⟨0, Nat.zero_le _, rfl, rfl⟩ ?_
    rintro _ _ ⟨i, hi, rfl, rfl⟩
    have hw1 : IntKind.i64.wrap ((i : Int) + 1) = ((i + 1 : Nat) : Int) := w64 (by omega) (by omega)
    have hz : 0 + (i : Int).toNat = i := by omega
    repeat' (first | refine gg ?_ | exact trivial | with_reducible refine wA ?_ ?_ | refine Y2.mk ?_ ?_ | refine gh ?_ | exact qq | fail)
    refine pcond rfl ?_ ?_ <;> intro hci
    · have hci : i < N.length := by have := of_decide_eq_true hci; omega
      have hMi : pthM N W t r i i = pthG N W t r i := if_neg (Nat.lt_irrefl _)
      repeat' (first | refine gg ?_ | exact trivial | with_reducible refine wA ?_ ?_ | refine Y2.mk ?_ ?_ | (exact (show 0 + (i : Int).toNat < N.length by omega)) | refine gh ?_ | exact qq | fail)
      refine pcond (b := decide (pthG N W t r i ≠ 0)) ?_ ?_ ?_
      · refine eqB ?_
        rw [hz, hMi]
        by_cases e : pthG N W t r i = 0 <;> simp [e]
      · intro h1
        have h1 := of_decide_eq_true h1
        repeat' (first | refine gg ?_ | exact trivial | with_reducible refine wA ?_ ?_ | refine Y2.mk ?_ ?_ | refine gh ?_ | exact qq | fail)
        refine xdone ?_
        rw [hw1]
        exact kloop_next (st' := ⟨[(0, sV N), (1, .vsl N.length 1 (tF cSl W)), (2, vi t), (7, .lsl 0 0 N.length), (8, vi ((r + 1 : Nat) : Int)), (9, vi ((i + 1 : Nat) : Int))], [iRow N.length (pthM N W t r (i + 1))]⟩) (N.length - (i + 1)) (can_rowsv [0] (k0_sel hk rfl) rfl (.cons rfl (by rw [pthM_skip h1]; exact RowEq.cl (i_cl _ _)) .nil) tmq) (by omega) ⟨i + 1, by omega, rfl, rfl⟩
      · intro h1
        have h1 := Decidable.not_not.1 (of_decide_eq_false h1)
        repeat' (first | refine gg ?_ | exact trivial | with_reducible refine wA ?_ ?_ | refine Y2.mk ?_ ?_ | refine gh ?_ | exact qq | fail)
        refine pcan (st' := ⟨[(0, sV N), (1, .vsl N.length 1 (tF cSl W)), (2, vi t), (7, .lsl 0 0 N.length), (8, vi ((r + 1 : Nat) : Int)), (9, vi i), (10, vi ((0 : Nat) : Int))], [iRow N.length (pthI N W t r i 0)]⟩) (can_rowsv [0] (k0_sel hk rfl) rfl (.cons rfl (by rw [pthI_zero h1]; exact RowEq.cl (i_cl _ _)) .nil) tmq) ?_
        refine ploop (fun z st => ∃ k : Nat, k ≤ N.length ∧ z = N.length - k ∧ st = ⟨[(0, sV N), (1, .vsl N.length 1 (tF cSl W)), (2, vi t), (7, .lsl 0 0 N.length), (8, vi ((r + 1 : Nat) : Int)), (9, vi i), (10, vi k)], [iRow N.length (pthI N W t r i k)]⟩) N.length ⟨0, Nat.zero_le _, rfl, rfl⟩ ?_
        rintro _ _ ⟨k, hkk, rfl, rfl⟩
        have hwk : IntKind.i64.wrap ((k : Int) + 1) = ((k + 1 : Nat) : Int) := w64 (by omega) (by omega)
        repeat' (first | refine gg ?_ | exact trivial | with_reducible refine wA ?_ ?_ | refine Y2.mk ?_ ?_ | refine gh ?_ | exact qq | fail)
        refine pcond rfl ?_ ?_ <;> intro hck
        · have hck : k < N.length := by have := of_decide_eq_true hck; omega
          have ch := has_c (W i) (lF 0 N k) (hW i)
          repeat' (first | refine gg ?_ | exact trivial | with_reducible refine wA ?_ ?_ | refine Y2.mk ?_ ?_ | refine xs_start (id := 12) true [.take 0, .take 1, .take 2, .take 3, .take 4, .take 5, .take 6, .take 7, .one 8, .take 9, .take 10, .take 11, .take 12, .take 13, .take 14, .take 15, .take 16, .take 17, .take 18, .take 19, .take 20, .take 21, .take 22, .take 23, .take 24, .take 25, .take 26, .take 27, .take 28, .take 29, .take 30, .take 31, .take 32, .take 33] 0 rfl rfl (by kernel_rfl) ?_ | refine zz ch ?_ | refine gh ?_ | exact qq | fail)
          refine pcond (b := pthC N W t (pthG N W t r) (r + 1 : Nat) i k) ?_ ?_ ?_
          · refine eqB ?_
            rw [hwr2]
            show (bif decide (lF 0 N k ∈ W i) then bif (bif ((r + 1 : Nat) : Int) == 1 then (lF 0 N k == t) else false) then true else (bif decide ((1 : Int) < ((r + 1 : Nat) : Int)) then (pthI N W t r i k (0 + (k : Int).toNat) == (r : Int)) else false) else false) = _
            rw [show 0 + (k : Int).toNat = k by omega]
            unfold pthC
            cases decide (lF 0 N k ∈ W i)
            · rfl
            · show (bif (bif ((r + 1 : Nat) : Int) == 1 then (lF 0 N k == t) else false) then true else (bif decide ((1 : Int) < ((r + 1 : Nat) : Int)) then (pthI N W t r i k k == (r : Int)) else false)) = (decide (((r + 1 : Nat) : Int) = 1 ∧ lF 0 N k = t) || decide ((1 : Int) < ((r + 1 : Nat) : Int) ∧ pthG N W t r k = ((r + 1 : Nat) : Int) - 1))
              by_cases hr0 : r = 0
              · subst hr0
                by_cases e : lF 0 N k = t <;> simp [e]
              · have hd := pthI_at (N := N) (W := W) (t := t) (K := k) (a := k) h1 (by omega : 1 ≤ r)
                have e1 : (((r + 1 : Nat) : Int) == 1) = false := by simp; omega
                have e2 : decide ((1 : Int) < ((r + 1 : Nat) : Int)) = true := decide_eq_true (by omega)
                have e3 : decide (((r + 1 : Nat) : Int) = 1 ∧ lF 0 N k = t) = false := decide_eq_false (by omega)
                have e4 : decide ((1 : Int) < ((r + 1 : Nat) : Int) ∧ pthG N W t r k = ((r + 1 : Nat) : Int) - 1) = decide (pthG N W t r k = r) := by rw [decide_eq_decide]; omega
                rw [e1, e2, e3, e4, ← hd, bqd]; rfl
          · intro h2
            repeat' (first | refine gg ?_ | exact trivial | with_reducible refine wA ?_ ?_ | refine Y2.mk ?_ ?_ | (exact (show 0 + (i : Int).toNat < N.length by omega)) | refine gh ?_ | exact qq | fail)
            refine xdone ?_
            rw [hwk]
            exact kloop_next (st' := ⟨[(0, sV N), (1, .vsl N.length 1 (tF cSl W)), (2, vi t), (7, .lsl 0 0 N.length), (8, vi ((r + 1 : Nat) : Int)), (9, vi i), (10, vi ((k + 1 : Nat) : Int))], [iRow N.length (pthI N W t r i (k + 1))]⟩) (N.length - (k + 1)) (can_rowsv [0] (k0_sel hk rfl) rfl (.cons rfl (by rw [pthI_yes h2]; exact iupd_eq hz rfl) .nil) tmq) (by omega) ⟨k + 1, by omega, rfl, rfl⟩
          · intro h2
            repeat' (first | refine gg ?_ | exact trivial | with_reducible refine wA ?_ ?_ | refine Y2.mk ?_ ?_ | refine gh ?_ | exact qq | fail)
            refine xdone ?_
            rw [hwk]
            exact kloop_next (st' := ⟨[(0, sV N), (1, .vsl N.length 1 (tF cSl W)), (2, vi t), (7, .lsl 0 0 N.length), (8, vi ((r + 1 : Nat) : Int)), (9, vi i), (10, vi ((k + 1 : Nat) : Int))], [iRow N.length (pthI N W t r i (k + 1))]⟩) (N.length - (k + 1)) (can_rowsv [0] (k0_sel hk rfl) rfl (.cons rfl (by rw [pthI_no h2]; exact RowEq.cl (i_cl _ _)) .nil) tmq) (by omega) ⟨k + 1, by omega, rfl, rfl⟩
        · have hkl : k = N.length := by have := of_decide_eq_false hck; omega
          subst hkl
          repeat' (first | refine gg ?_ | exact trivial | with_reducible refine wA ?_ ?_ | refine Y2.mk ?_ ?_ | refine gh ?_ | exact qq | fail)
          refine xdone ?_
          rw [hw1]
          exact kloop_next (st' := ⟨[(0, sV N), (1, .vsl N.length 1 (tF cSl W)), (2, vi t), (7, .lsl 0 0 N.length), (8, vi ((r + 1 : Nat) : Int)), (9, vi ((i + 1 : Nat) : Int))], [iRow N.length (pthM N W t r (i + 1))]⟩) (N.length - (i + 1)) (can_rowsv [0] (k0_sel hk rfl) rfl (.cons rfl (by rw [pthI_all h1]; exact RowEq.cl (i_cl _ _)) .nil) tmq) (by omega) ⟨i + 1, by omega, rfl, rfl⟩
    · have hil : i = N.length := by have := of_decide_eq_false hci; omega
      subst hil
      repeat' (first | refine gg ?_ | exact trivial | with_reducible refine wA ?_ ?_ | refine Y2.mk ?_ ?_ | refine gh ?_ | exact qq | fail)
      refine xdone ?_
      rw [hwr]
      exact kloop_next (st' := ⟨[(0, sV N), (1, .vsl N.length 1 (tF cSl W)), (2, vi t), (7, .lsl 0 0 N.length), (8, vi ((r + 1 + 1 : Nat) : Int))], [iRow N.length (pthG N W t (r + 1))]⟩) (N.length - (r + 1)) (can_rowsv [0] (k0_sel hk rfl) rfl (.cons rfl (i_eq (Nat.le_refl _) fun a ha => by
        show vi (pthM N W t r N.length a) = _
        unfold pthM; rw [if_pos ha]) .nil) tmq) (by omega) ⟨r + 1, by omega, rfl, rfl⟩
  · have hrn : r = N.length := by have : ¬ ((r + 1 : Nat) : Int) ≤ (N.length : Int) := of_decide_eq_false hc; omega
    subst hrn
    repeat' (first | refine gg ?_ | exact trivial | with_reducible refine wA ?_ ?_ | refine Y2.mk ?_ ?_ | refine gh ?_ | exact qq | fail)
    refine xdone ?_
    exact kret [0] rfl ⟨trivial, trivial⟩ (qs := [.vsl N.length 1 (tI (pthG N W t N.length))]) ⟨argLsl (r := iRow N.length _) rfl trivial (List.Mem.head _) (Nat.le_of_eq (Nat.zero_add _)) (fun a ha b hb => ⟨by show tI _ (0 + a) b = _; rw [Nat.zero_add], trivial⟩), trivial⟩ rfl
end Go.Proofs.YtcefhgomkehokaaGreat
