/- Functions that are handed rows and hand rows back; dropping rows. -/
import Derived.Test.YtcefhgomkehokaaGreatB04
import Derived.IntWalk
import Derived.LoopN
import Derived.Laws.Cover3
set_option linter.unusedSimpArgs false
set_option linter.unusedVariables false
namespace Go.Proofs.YtcefhgomkehokaaGreat
open Go.RowKit
def PV.ren (τ : Nat → Option Nat) : PV → PV
  | .junk => .junk
  | .val v => .val v
  | .agg n f => .agg n fun i => (f i).ren τ
  | .tup n f => .tup n fun i => (f i).ren τ
  | .ptr l i j => match τ l with
    | some l' => .ptr l' i j
    | none => .junk
  | .lsl l i n => match τ l with
    | some l' => .lsl l' i n
    | none => .junk
  | .vsl n sz f => .vsl n sz f
  | .csl n sz f => .csl n sz f
  | .vmap c => .vmap c
  | .vptr n sz f i j => .vptr n sz f i j
  | .opt b p => .opt b (p.ren τ)
  | .clo f n c => .clo f n fun i => (c i).ren τ
  | .mref l => match τ l with
    | some l' => .mref l'
    | none => .junk
theorem VRel.ren {k k' : Nat} {ρ ρ' : Nat → Loc} {I : Nat → Prop} {w : World} {τ : Nat → Option Nat} (hτ : ∀ l l', l < k → τ l = some l' → l' < k' ∧ ρ' l' = ρ l) : ∀ (p : PV) (v : Value), VRel k ρ I w p v → VRel k' ρ' I w (p.ren τ) v := by
  intro p
  induction p with
  | junk => intro v _; trivial
  | val x => intro v h; exact h
  | agg n f ih => rintro v ⟨vs, h1, h2, h3⟩; exact ⟨vs, h1, h2, fun i hi => ⟨(h3 i hi).1, ih i _ (h3 i hi).2⟩⟩
  | tup n f ih => rintro v ⟨vs, h1, h2, h3⟩; exact ⟨vs, h1, h2, fun i hi => ih i _ (h3 i hi)⟩
  | ptr l i j =>
    rintro v ⟨h1, h2⟩
    rw [PV.ren]
    cases ht : τ l with
    | none => trivial
    | some l' => obtain ⟨e1, e2⟩ := hτ l l' h1 ht; exact ⟨e1, by rw [e2]; exact h2⟩
  | lsl l i n =>
    rintro v ⟨h1, h2⟩
    rw [PV.ren]
    cases ht : τ l with
    | none => trivial
    | some l' => obtain ⟨e1, e2⟩ := hτ l l' h1 ht; exact ⟨e1, by rw [e2]; exact h2⟩
  | vsl n sz f ih =>
    rintro v ⟨a, cap, h1, h2, h3⟩
    refine ⟨a, cap, h1, h2, h3.imp id ?_⟩
    rintro ⟨b, o, e, hb, h4⟩
    exact ⟨b, o, e, hb, fun i hi j hj => by obtain ⟨u, h5, h7, h6⟩ := h4 i hi j hj; exact ⟨u, h5, h7, h6.of0⟩⟩
  | csl n sz f ih =>
    rintro v ⟨a, h1, h3⟩
    refine ⟨a, h1, h3.imp id ?_⟩
    rintro ⟨b, o, e, hb, h4⟩
    exact ⟨b, o, e, hb, fun i hi j hj => by obtain ⟨u, h5, h7, h6⟩ := h4 i hi j hj; exact ⟨u, h5, h7, h6.of0⟩⟩
  | vmap c ih =>
    rintro v ⟨b, es, clock, h1, h2, h3, h4, h5⟩
    exact ⟨b, es, clock, h1, h2, h3, h4, h5.of0⟩
  | vptr n sz f i j ih =>
    rintro v ⟨b, o, e, hb, h4⟩
    exact ⟨b, o, e, hb, fun i hi j hj => by obtain ⟨u, h5, h7, h6⟩ := h4 i hi j hj; exact ⟨u, h5, h7, h6.of0⟩⟩
  | opt b p ih => rintro v ⟨h1, h2⟩; exact ⟨fun hb => ih _ (h1 hb), h2⟩
  | clo f n c ih => rintro v ⟨vs, h1, h2, h3⟩; exact ⟨vs, h1, h2, fun i hi => ih i _ (h3 i hi)⟩
  | mref l =>
    rintro v ⟨h1, h2⟩
    rw [PV.ren]
    cases ht : τ l with
    | none => trivial
    | some l' => obtain ⟨e1, e2⟩ := hτ l l' h1 ht; exact ⟨e1, by rw [e2]; exact h2⟩
def PEq (p q : PV) : Prop := ∀ (k : Nat) (ρ : Nat → Loc) (I : Nat → Prop) (w : World) (v : Value), VRel k ρ I w p v → VRel k ρ I w q v
theorem PEq.refl (p : PV) : PEq p p := fun _ _ _ _ _ h => h
theorem PEq.of {p q : PV} (h : p = q) : PEq p q := h ▸ PEq.refl p
theorem PEq.opt {b : Bool} {p q : PV} (hb : b = true) (h : PEq p q) : PEq (.opt b p) q := fun k ρ I w v hv => h k ρ I w v (hv.1 hb)
theorem PEq.agg {n : Nat} {f g : Nat → PV} (h : ∀ i, i < n → PEq (f i) (g i)) : PEq (.agg n f) (.agg n g) := fun k ρ I w v ⟨vs, h1, h2, h3⟩ => ⟨vs, h1, h2, fun i hi => ⟨(h3 i hi).1, h i hi _ _ _ _ _ (h3 i hi).2⟩⟩
theorem PEq.tup {n : Nat} {f g : Nat → PV} (h : ∀ i, i < n → PEq (f i) (g i)) : PEq (.tup n f) (.tup n g) := fun k ρ I w v ⟨vs, h1, h2, h3⟩ => ⟨vs, h1, h2, fun i hi => h i hi _ _ _ _ _ (h3 i hi)⟩
theorem PEq.clo {c : FuncId} {n : Nat} {f g : Nat → PV} (h : ∀ i, i < n → PEq (f i) (g i)) : PEq (.clo c n f) (.clo c n g) := fun k ρ I w v ⟨vs, h1, h2, h3⟩ => ⟨vs, h1, h2, fun i hi => h i hi _ _ _ _ _ (h3 i hi)⟩
theorem PEq.clo1 {c : FuncId} {f g : Nat → PV} (h : PEq (f 0) (g 0)) : PEq (.clo c 1 f) (.clo c 1 g) := .clo fun i hi => by
  obtain rfl : i = 0 := by omega
  exact h
def PEqL : List PV → List PV → Prop
  | [], [] => True
  | p :: ps, q :: qs => PEq p q ∧ PEqL ps qs
  | _, _ => False
theorem PEqL.get : ∀ {ps qs : List PV}, PEqL ps qs → qs.length = ps.length ∧ ∀ i, i < ps.length → PEq (nthP ps i) (nthP qs i)
  | [], [], _ => ⟨rfl, fun i hi => by simp at hi⟩
  | p :: ps, q :: qs, h => by
    obtain ⟨h1, h2⟩ := PEqL.get h.2
    refine ⟨by simp [h1], fun i hi => ?_⟩
    cases i with
    | zero => exact h.1
    | succ i => exact h2 i (by simpa using hi)
  | [], _ :: _, h => h.elim
  | _ :: _, [], h => h.elim
def Row.ren (τ : Nat → Option Nat) (r : Row) : Row := ⟨r.s, r.one, r.n, r.sz, fun i j => (r.f i j).ren τ⟩
def RowEq (r r' : Row) : Prop := r'.s = r.s ∧ r'.sz = r.sz ∧ r'.n ≤ r.n ∧ ∀ i, i < r'.n → ∀ j, j < r'.sz → PEq (r.f i j) (r'.f i j)
theorem RowEq.refl (r : Row) : RowEq r r := ⟨rfl, rfl, Nat.le_refl _, fun _ _ _ _ => PEq.refl _⟩
def inv : List Nat → Nat → Nat → Option Nat
  | [], _, _ => none
  | x :: s, i, l => cond (Nat.beq x l) (some i) (inv s (i + 1) l)
theorem inv_some : ∀ (s : List Nat) (i l q : Nat), inv s i l = some q → ∃ j, q = i + j ∧ s[j]? = some l
  | [], _, _, _, h => by cases h
  | x :: s, i, l, q, h => by
    rw [inv] at h
    cases hb : Nat.beq x l
    · rw [hb] at h
      obtain ⟨j, h1, h2⟩ := inv_some s (i + 1) l q h
      exact ⟨j + 1, by omega, by simpa using h2⟩
    · rw [hb] at h
      simp only [cond_true, Option.some.injEq] at h
      exact ⟨0, by omega, by simp [Nat.eq_of_beq_eq_true hb]⟩
def tau : List Nat → Nat → Nat → Option Nat
  | [], n, i => some (n + i)
  | l :: _, _, 0 => some l
  | _ :: s, n, i + 1 => tau s n i
theorem tau_some : ∀ (s : List Nat) (n i l : Nat), tau s n i = some l → s[i]? = some l ∨ (s.length ≤ i ∧ l = n + (i - s.length))
  | [], n, i, l, h => by simp only [tau, Option.some.injEq] at h; exact .inr ⟨by simp, by simp; omega⟩
  | x :: s, n, 0, l, h => by simp only [tau, Option.some.injEq] at h; exact .inl (by simp [h])
  | x :: s, n, i + 1, l, h => by
    rcases tau_some s n i l h with h | ⟨h1, h2⟩
    · exact .inl (by simpa using h)
    · exact .inr ⟨by simpa using h1, by simp; omega⟩
def RowsC (P : Program) (f : FuncId) (rows : List Row) (args : List PV) (post : PV → List Row → Prop) : Prop :=
  CallOk P f ∧ ∀ (ρ : Nat → Loc) (A : Nat → Prop) (w : World) (vs : List Value), MRel ρ A w rows → GOk A w → vs.length = args.length → (∀ i, i < args.length → VRel rows.length ρ A w (nthP args i) (vs.getD i undef)) →
    Calls P f vs.toArray w fun e w' => ∃ v r rows' ρ' I', e = .returned v ∧ post r rows' ∧ (∀ l r, rows.length ≤ l → rows'[l]? = some r → r.s.live → r.s.isOwn) ∧
      Frame' { w0 := w, A := A, E := fun b => ∃ l r, rows[l]? = some r ∧ r.s.isOwn ∧ b = (ρ l).b, k0 := rows.length, ρ0 := ρ } ρ' I' w' rows' ∧ VRel rows'.length ρ' I' w' r v
theorem RowsC.mono {P : Program} {f : FuncId} {rows : List Row} {args : List PV} {post post' : PV → List Row → Prop} (h : RowsC P f rows args post) (hp : ∀ r rows', post r rows' → post' r rows') : RowsC P f rows args post' :=
  ⟨h.1, fun ρ A w vs h1 hG h2 h3 => (h.2 ρ A w vs h1 hG h2 h3).mono fun e w' ⟨v, r, rows', ρ', I', g1, g2, g3⟩ => ⟨v, r, rows', ρ', I', g1, hp _ _ g2, g3⟩⟩
def exOk : Nat → List Row → Bool
  | _, [] => true
  | 0, r :: m => (match r.s with | .imm => false | _ => true) && exOk 0 m
  | k + 1, _ :: m => exOk k m
theorem exOk_get : ∀ (k : Nat) (m : List Row), exOk k m = true → ∀ l r, k ≤ l → m[l]? = some r → r.s.live → r.s.isOwn
  | _, [], _, l, r, _, h, _ => by simp at h
  | 0, r0 :: m, h, l, r, hk, hl, hs => by
    rw [exOk, Bool.and_eq_true] at h
    cases l with
    | zero =>
      simp only [List.getElem?_cons_zero, Option.some.injEq] at hl
      subst hl
      cases he : r0.s <;> rw [he] at hs h <;> first | exact hs.elim | trivial | simp at h
    | succ l => exact exOk_get 0 m h.2 l r (Nat.zero_le _) (by simpa using hl) hs
  | k + 1, r0 :: m, h, l, r, hk, hl, hs => by
    cases l with
    | zero => omega
    | succ l => exact exOk_get k m h l r (by omega) (by simpa using hl) hs
structure KretR (N : Nat) (Γ : Fr) (tab : List TI) (res : List ResultVar) (k : Nat) (post : PV → List Row → Prop) (e : Exit) (st : PSt) : Prop where
  go : (e = .normal ∨ e = .ret) ∧ ∃ st', Can N Γ st st' ∧ ∃ ps pre, presl tab st' res = some (ps, pre) ∧ pre ∧ exOk k st'.mem = true ∧ post (pack ps) st'.mem
theorem kretr {N : Nat} {Γ : Fr} {tab : List TI} {res : List ResultVar} {k : Nat} {post : PV → List Row → Prop} {st st' : PSt} {ps : List PV} {pre : Prop} (hc : Can N Γ st st') (h1 : presl tab st' res = some (ps, pre)) (h2 : pre) (h3 : exOk k st'.mem = true) (h4 : post (pack ps) st'.mem) : KretR N Γ tab res k post .ret st := ⟨.inr rfl, st', hc, ps, pre, h1, h2, h3, h4⟩
theorem rows_of {G : Pg} {f : FuncId} {fn : Func} {body : Code} {rows : List Row} {args : List PV} {post : PV → List Row → Prop} (hf : G.P.funcs[f]? = some fn) (hb : fn.body = some body) (hn : (fn.name == "runtime.NumGoroutine") = false) (hN : Nat.ble args.length fn.ntmps = true)
    (h : ∀ Γ : Fr, Γ.k0 = rows.length → PWp G fn.ntmps Γ body ⟨argTm 0 args, rows⟩ (KretR fn.ntmps Γ G.tab fn.results.toList rows.length post)) : RowsC G.P f rows args post := by
  refine ⟨callOk_of hf hb hn, fun ρ A w vs hm hG hlen hvs => ?_⟩
  have hN' : args.length ≤ fn.ntmps := Nat.le_of_ble_eq_true hN
  let Γ : Fr := { w0 := w, A := A, E := fun b => ∃ l r, rows[l]? = some r ∧ r.s.isOwn ∧ b = (ρ l).b, k0 := rows.length, ρ0 := ρ }
  refine calls_of_wp hf hb ?_
  have hrel : Rel fn.ntmps Γ ⟨argTm 0 args, rows⟩ ρ A { tmps := vs.toArray ++ Array.replicate (fn.ntmps - vs.toArray.size) undef, defers := [] } w := by
    refine ⟨⟨hm, rfl, rfl, rfl, Nat.le_refl _, fun _ _ _ => rfl, fun b cs T fz hb => ⟨cs, hb, rfl⟩, fun b hb _ => hb, fun b hb => hb, fun l r hl ho _ => ⟨l, r, hl, ho, rfl⟩, fun l r hl ho hk => ?_, Nat.le_refl _, fun l hl => rfl, fun l r hl ho hk => ?_, hG⟩, rfl, by simp; omega, fun t => ?_⟩
    · have h1 : l < rows.length := lt_get hl
      have h2 : rows.length ≤ l := hk
      omega
    · have h1 : l < rows.length := lt_get hl
      have h2 : rows.length ≤ l := hk
      omega
    · simp only [PSt.get, look_argTm, Nat.zero_le, if_true, Nat.sub_zero]
      by_cases ht : t < args.length
      · have e : (vs.toArray ++ Array.replicate (fn.ntmps - vs.toArray.size) undef).getD t undef = vs.getD t undef := by
          simp [Array.getD_eq_getD_getElem?, Array.getElem?_append, show t < vs.length by omega]
        rw [e]; exact hvs t ht
      · rw [nthP_out _ _ (by omega)]; trivial
  refine wp_mono ((h Γ rfl).go _ A _ w hrel) ?_
  rintro e a' w' ⟨_, st', ρ', I', ⟨⟨he, st2, hcan, ps, pre, hps, hpre, hex, hpost⟩⟩, hr0⟩
  obtain ⟨ρ2, I2, hr⟩ := hcan ρ' I' a' w' hr0
  obtain ⟨us, hus, hul, hur⟩ := presl_sound G.ok hr _ ps pre hps hpre
  have hfin : ∃ v, (results fn a'.tmps).run G.P w' = .ok v w' ∧ VRel st2.mem.length ρ2 I2 w' (pack ps) v := by
    have hrun : (results fn a'.tmps).run G.P w' = .ok (if h : us.toArray.size = 1 then us.toArray[0] else .tuple us.toArray) w' := by
      rw [results_eq]
      simp only [Sem.run_bind, Array.mapM_eq_mapM_toList, Sem.run_map]
      rw [hus]
      simp
    refine ⟨_, hrun, ?_⟩
    by_cases h1 : us.toArray.size = 1
    · rw [dif_pos h1]
      have h1' : us.length = 1 := by simpa using h1
      obtain ⟨u, rfl⟩ : ∃ u, us = [u] := List.length_eq_one_iff.1 h1'
      obtain ⟨q, rfl⟩ : ∃ q, ps = [q] := List.length_eq_one_iff.1 (by rw [← hul]; exact h1')
      simpa [pack, nthP] using hur 0 (by simp)
    · rw [dif_neg h1]
      have hp : pack ps = .tup ps.length (nthP ps) := by
        match ps, hul with
        | [], _ => rfl
        | [q], ql => exact absurd (by simpa using ql) h1
        | _ :: _ :: _, _ => rfl
      rw [hp]
      exact ⟨us.toArray, rfl, by simpa using hul, fun i hi => by simpa using hur i hi⟩
  obtain ⟨v, hv1, hv2⟩ := hfin
  rcases he with rfl | rfl
  · exact ⟨hr.defers, v, hv1, v, pack ps, st2.mem, ρ2, I2, rfl, hpost, exOk_get _ _ hex, hr.fr, hv2⟩
  · exact ⟨hr.defers, v, hv1, v, pack ps, st2.mem, ρ2, I2, rfl, hpost, exOk_get _ _ hex, hr.fr, hv2⟩
theorem getLt {α : Type} {l : List α} {i : Nat} {x : α} (h : l[i]? = some x) : i < l.length := by
  by_cases hlt : i < l.length
  · exact hlt
  · rw [List.getElem?_eq_none (by omega)] at h; cases h
def putRows (τ : Nat → Option Nat) : List Nat → List Row → List Row → List Row
  | [], ext, mem => mem ++ ext.map (Row.ren τ)
  | l :: s, r :: rows, mem => putRows τ s rows (mem.set l (r.ren τ))
  | _ :: _, [], mem => mem
theorem putRows_get (τ : Nat → Option Nat) : ∀ (s : List Nat) (rows mem : List Row), s.length ≤ rows.length → (∀ l, l ∈ s → l < mem.length) → s.Nodup →
    (putRows τ s rows mem).length = mem.length + (rows.length - s.length) ∧ ∀ l r, (putRows τ s rows mem)[l]? = some r → (l ∉ s ∧ mem[l]? = some r) ∨ (∃ (i : Nat) (r' : Row), s[i]? = some l ∧ rows[i]? = some r' ∧ r = r'.ren τ) ∨ ∃ (i : Nat) (r' : Row), l = mem.length + i ∧ rows[s.length + i]? = some r' ∧ r = r'.ren τ
  | [], ext, mem, _, _, _ => by
    refine ⟨by simp [putRows], fun l r h => ?_⟩
    rw [putRows] at h
    by_cases hlt : l < mem.length
    · rw [List.getElem?_append_left hlt] at h; exact .inl ⟨by simp, h⟩
    · rw [List.getElem?_append_right (by omega), List.getElem?_map] at h
      obtain ⟨r', h1, h2⟩ := Option.map_eq_some_iff.1 h
      exact .inr (.inr ⟨l - mem.length, r', by omega, by simpa using h1, h2.symm⟩)
  | x :: s, r0 :: rows, mem, hl, hb, hd => by
    obtain ⟨h1, h2⟩ := putRows_get τ s rows (mem.set x (r0.ren τ)) (by simpa using hl) (fun l h => by simpa using hb l (List.mem_cons_of_mem _ h)) (List.nodup_cons.1 hd).2
    refine ⟨by rw [putRows, h1]; simp, fun l r h => ?_⟩
    rw [putRows] at h
    have hx : x < mem.length := hb x (by simp)
    rcases h2 l r h with ⟨n1, g⟩ | ⟨i, r', g1, g2, g3⟩ | ⟨i, r', g1, g2, g3⟩
    · by_cases e : l = x
      · subst e
        rw [List.getElem?_set_self hx] at g
        exact .inr (.inl ⟨0, r0, by simp, by simp, by simpa using g.symm⟩)
      · rw [List.getElem?_set_ne (Ne.symm e)] at g
        exact .inl ⟨by simp [e, n1], g⟩
    · exact .inr (.inl ⟨i + 1, r', by simpa using g1, by simpa using g2, g3⟩)
    · refine .inr (.inr ⟨i, r', by simpa using g1, ?_, g3⟩)
      rw [List.length_cons, show s.length + 1 + i = (s.length + i) + 1 by omega]; simpa using g2
  | _ :: _, [], mem, h, _, _ => by simp at h
def SelOk (mem : List Row) (sel0 : List Nat) : List Nat → List Row → Prop
  | [], [] => True
  | l :: s, r :: rs => (∃ r0, rowAt mem l = some r0 ∧ (r0.s.live ∨ r0.s = .mp) ∧ RowEq (r0.ren (inv sel0 0)) r) ∧ SelOk mem sel0 s rs
  | _, _ => False
theorem SelOk.get {mem : List Row} {sel0 : List Nat} : ∀ (s : List Nat) (rs : List Row), SelOk mem sel0 s rs → s.length = rs.length ∧ ∀ (i : Nat) (r : Row), rs[i]? = some r → ∃ (l : Nat) (r0 : Row), s[i]? = some l ∧ mem[l]? = some r0 ∧ (r0.s.live ∨ r0.s = .mp) ∧ RowEq (r0.ren (inv sel0 0)) r
  | [], [], _ => ⟨rfl, fun i r h => by simp at h⟩
  | l :: s, r :: rs, h => by
    obtain ⟨h1, h2⟩ := SelOk.get s rs h.2
    refine ⟨by simp [h1], fun i r' hi => ?_⟩
    cases i with
    | zero =>
      simp only [List.getElem?_cons_zero, Option.some.injEq] at hi
      subst hi
      obtain ⟨r0, e1, e2, e3⟩ := h.1
      rw [rowAt_get] at e1
      exact ⟨l, r0, by simp, e1, e2, e3⟩
    | succ i =>
      obtain ⟨l', r0, e⟩ := h2 i r' (by simpa using hi)
      exact ⟨l', r0, by simpa using e.1, e.2⟩
  | [], _ :: _, h => h.elim
  | _ :: _, [], h => h.elim
section
variable {G : Pg} {N : Nat} {Γ : Fr} {st : PSt} {ρ : Nat → Loc} {I : Nat → Prop} {a : Act} {w : World}
def sub (sel : List Nat) (ρ : Nat → Loc) (i : Nat) : Loc := ρ (sel.getD i 0)
theorem sub_get {sel : List Nat} {i l : Nat} (h : sel[i]? = some l) : sub sel ρ i = ρ l := by simp [sub, List.getD, h]
theorem inv_ok {sel : List Nat} {k k' : Nat} (hk : sel.length = k') : ∀ l l', l < k → inv sel 0 l = some l' → l' < k' ∧ sub sel ρ l' = ρ l := fun l l' _ h => by
  obtain ⟨j, rfl, h2⟩ := inv_some sel 0 l l' h
  have := getLt h2
  rw [Nat.zero_add]
  exact ⟨by omega, sub_get h2⟩
theorem MRel.sel (hm : MRel ρ I w st.mem) {sel : List Nat} {rows : List Row} (hs : SelOk st.mem sel sel rows) (hd : sel.Nodup) : MRel (sub sel ρ) I w rows := by
  obtain ⟨hlen, hget⟩ := SelOk.get sel rows hs
  have ne : ∀ (i j l l' : Nat), i ≠ j → sel[i]? = some l → sel[j]? = some l' → l ≠ l' := fun i j l l' hne h1 h2 e => by
    subst e
    have b1 := getLt h1
    have b2 := getLt h2
    exact hne ((List.getElem?_inj b1 hd).1 (h1.trans h2.symm))
  refine ⟨fun i r hi hl => ?_, fun i j r r' hne hi hj h1 h2 => ?_, fun i r hi ho => ?_, fun i r hi ho => ?_, hm.lt, fun i r hi hmp => ?_, fun i j r r' hne hi hj h1 h2 => ?_⟩
  · obtain ⟨l, r0, e1, e2, e3, q1, q2, q3, q4⟩ := hget i r hi
    have q1 : r.s = r0.s := q1
    obtain ⟨h1, cs, T, h2, h3⟩ := hm.row l r0 e2 (by rw [← q1]; exact hl)
    rw [sub_get e1]
    refine ⟨h1.trans q2.symm, cs, T, h2, fun x hx y hy => ?_⟩
    have hy0 : y < r0.sz := by rw [q2] at hy; exact hy
    obtain ⟨u, g1, g2, g3⟩ := h3 x (Nat.lt_of_lt_of_le hx q3) y hy0
    refine ⟨u, by rw [q2]; exact g1, g2, q4 x hx y hy _ _ _ _ _ (VRel.ren (inv_ok hlen) _ _ g3)⟩
  · obtain ⟨l, r0, e1, e2, e3, q, _⟩ := hget i r hi
    obtain ⟨l', r0', e1', e2', e3', q', _⟩ := hget j r' hj
    have q : r.s = r0.s := q
    have q' : r'.s = r0'.s := q'
    rw [sub_get e1, sub_get e1']
    exact hm.apart l l' r0 r0' (ne i j l l' hne e1 e1') e2 e2' (by rw [← q]; exact h1) (by rw [← q']; exact h2)
  · obtain ⟨l, r0, e1, e2, e3, q1, _⟩ := hget i r hi
    rw [sub_get e1]
    exact hm.mine l r0 e2 (by rw [q1] at ho; exact ho)
  · obtain ⟨l, r0, e1, e2, e3, q1, _⟩ := hget i r hi
    rw [sub_get e1]
    exact hm.imm l r0 e2 (by rw [q1] at ho; exact ho)
  · obtain ⟨l, r0, e1, e2, e3, q1, q2, q3, q4⟩ := hget i r hi
    have q1 : r.s = r0.s := q1
    obtain ⟨g1, g2⟩ := hm.side l r0 e2 (by rw [← q1]; exact hmp)
    rw [sub_get e1]
    exact ⟨g1, g2.up q3 q2 (.refl _) fun x hx y hy v hv => q4 x hx y hy _ _ _ _ _ (VRel.ren (inv_ok hlen) _ _ hv)⟩
  · obtain ⟨l, r0, e1, e2, e3, q, _⟩ := hget i r hi
    obtain ⟨l', r0', e1', e2', e3', q', _⟩ := hget j r' hj
    have q : r.s = r0.s := q
    have q' : r'.s = r0'.s := q'
    rw [sub_get e1, sub_get e1']
    exact hm.sap l l' r0 r0' (ne i j l l' hne e1 e1') e2 e2' (by rw [← q]; exact h1) (by rw [← q']; exact h2)
theorem Rel.rowsCall (h : Rel N Γ st ρ I a w) {sel : List Nat} {rows rows' : List Row} (hs : SelOk st.mem sel sel rows) (hd : sel.Nodup) {ρ' : Nat → Loc} {I' : Nat → Prop} {w' : World} (hex : ∀ l r, rows.length ≤ l → rows'[l]? = some r → r.s.live → r.s.isOwn)
    (hfr : Frame' { w0 := w, A := I, E := fun b => ∃ l r, rows[l]? = some r ∧ r.s.isOwn ∧ b = (sub sel ρ l).b, k0 := rows.length, ρ0 := sub sel ρ } ρ' I' w' rows') :
    ∃ ρ2, Rel N Γ ⟨st.tm, putRows (tau sel st.mem.length) sel rows' st.mem⟩ ρ2 I' a w' ∧ Chg st ρ I w sel false ⟨st.tm, putRows (tau sel st.mem.length) sel rows' st.mem⟩ ρ2 I' w' ∧ ∀ p v, VRel rows'.length ρ' I' w' p v → VRel (putRows (tau sel st.mem.length) sel rows' st.mem).length ρ2 I' w' (p.ren (tau sel st.mem.length)) v := by
  obtain ⟨hlen, hget⟩ := SelOk.get sel rows hs
  have hk0 : rows.length ≤ rows'.length := hfr.k0
  have hin : ∀ l, l ∈ sel → ∃ (i : Nat) (r r0 : Row), sel[i]? = some l ∧ rows[i]? = some r ∧ st.mem[l]? = some r0 ∧ (r0.s.live ∨ r0.s = .mp) ∧ r.s = r0.s := fun l hl => by
    obtain ⟨i, hi, e⟩ := List.getElem_of_mem hl
    have hir : i < rows.length := by omega
    obtain ⟨l2, r0, e1, e2, e3, e4, _⟩ := hget i rows[i] (List.getElem?_eq_getElem hir)
    have : l2 = l := by rw [List.getElem?_eq_getElem hi, e] at e1; simpa using e1.symm
    subst this
    exact ⟨i, _, r0, e1, List.getElem?_eq_getElem hir, e2, e3, e4⟩
  obtain ⟨pl, pg⟩ := putRows_get (tau sel st.mem.length) sel rows' st.mem (by omega) (fun l hl => by obtain ⟨_, _, r0, _, _, e, _⟩ := hin l hl; exact getLt e) hd
  let ρ2 : Nat → Loc := fun l => if l < st.mem.length then ρ l else ρ' (sel.length + (l - st.mem.length))
  have h2lt : ∀ l, l < st.mem.length → ρ2 l = ρ l := fun l hl => if_pos hl
  have h2ge : ∀ i, ρ2 (st.mem.length + i) = ρ' (sel.length + i) := fun i => by
    have : ¬ (st.mem.length + i < st.mem.length) := by omega
    simp only [ρ2, if_neg this]; congr 2; omega
  have hρ' : ∀ (i l : Nat), sel[i]? = some l → ρ' i = ρ l := fun i l hi => by
    rw [hfr.ρ0 i (by have := getLt hi; simp only; omega)]; exact sub_get hi
  have hτ : ∀ l l', l < rows'.length → tau sel st.mem.length l = some l' → l' < (putRows (tau sel st.mem.length) sel rows' st.mem).length ∧ ρ2 l' = ρ' l := fun l l' hl ht => by
    rcases tau_some _ _ _ _ ht with e | ⟨e1, rfl⟩
    · have hml : l' < st.mem.length := by obtain ⟨_, _, r0, _, _, e, _⟩ := hin l' (List.mem_of_getElem? e); exact getLt e
      exact ⟨by rw [pl]; omega, by rw [h2lt l' hml, hρ' l l' e]⟩
    · refine ⟨by rw [pl]; omega, ?_⟩
      rw [h2ge]; congr 1; omega
  have ren : ∀ {p : PV} {v : Value}, VRel rows'.length ρ' I' w' p v → VRel (putRows (tau sel st.mem.length) sel rows' st.mem).length ρ2 I' w' (p.ren (tau sel st.mem.length)) v := fun hv => VRel.ren hτ _ _ hv
  have hE : ∀ b, (∃ (l : Nat) (r : Row), rows[l]? = some r ∧ r.s.isOwn ∧ b = (sub sel ρ l).b) → ∃ (l : Nat) (r0 : Row), l ∈ sel ∧ st.mem[l]? = some r0 ∧ r0.s.isOwn ∧ b = (ρ l).b := by
    rintro b ⟨i, r, hi, ho, rfl⟩
    obtain ⟨l, r0, e1, e2, e3, e4, _⟩ := hget i r hi
    exact ⟨l, r0, List.mem_of_getElem? e1, e2, by rw [e4] at ho; exact ho, by rw [sub_get e1]⟩
  have ht : Tr I w w' := ⟨fun b hb => hfr.block b (h.fr.m.lt b hb) (fun he => by
    obtain ⟨l, r0, _, e2, e3, rfl⟩ := hE b he
    exact h.fr.m.mine l r0 e2 e3 hb), fun b cs T fz hb => hfr.shape b cs T fz hb⟩
  have hI : ∀ b, I b → I' b := hfr.new
  have hI2 : ∀ b, I' b → I b ∨ w.heap.size ≤ b := fun b hb => by
    by_cases hlt : b < w.heap.size
    · exact .inl (hfr.old b hb hlt)
    · exact .inr (by omega)
  have up : ∀ {p : PV} {v : Value}, VRel st.mem.length ρ I w p v → VRel (putRows (tau sel st.mem.length) sel rows' st.mem).length ρ2 I' w' p v := fun hv =>
    hv.up (by rw [pl]; omega) h2lt hI ht
  have fresh : ∀ (i : Nat) (r : Row), rows'[sel.length + i]? = some r → r.s.live → w.heap.size ≤ (ρ' (sel.length + i)).b := fun i r hi hl =>
    hfr.fresh _ r hi (hex _ r (by omega) hi hl) (by simp only; omega)
  have hsel0 : ∀ (i l : Nat), sel[i]? = some l → ∃ r0 : Row, st.mem[l]? = some r0 ∧ (r0.s.live ∨ r0.s = .mp) ∧ l < st.mem.length := fun i l hi => by
    obtain ⟨_, _, r0, _, _, e, e2, _⟩ := hin l (List.mem_of_getElem? hi); exact ⟨r0, e, e2, getLt e⟩
  have hnc : NC w w' := .of fun b hb hcells => hfr.block b hb (fun he => by
    obtain ⟨l2, r2, f1, f2, f3, rfl⟩ := hE _ he
    obtain ⟨_, cs, T, g, _⟩ := h.fr.m.row l2 r2 f2 (RS.live_of_own f3)
    exact hcells _ _ _ g)
  have hsel : ∀ (i l : Nat) (r' : Row), sel[i]? = some l → rows'[i]? = some r' → r'.s.live → ∃ r0 : Row, st.mem[l]? = some r0 ∧ r0.s.live ∧ l < st.mem.length := fun i l r' hi hr hlv => by
    obtain ⟨r0, e1, e2, e3⟩ := hsel0 i l hi
    rcases e2 with e2 | e2
    · exact ⟨r0, e1, e2, e3⟩
    · exfalso
      obtain ⟨o, q1, q2⟩ := (h.fr.m.side l r0 e1 e2).2.nc
      obtain ⟨_, cs, T, g, _⟩ := hfr.m.row i r' hr hlv
      rw [hρ' i l hi, hnc _ _ q1 q2] at g
      exact q2 _ _ _ (Option.some.inj g)
  have hselm : ∀ (i l : Nat) (r' : Row), sel[i]? = some l → rows'[i]? = some r' → r'.s = .mp → ∃ r0 : Row, st.mem[l]? = some r0 ∧ r0.s = .mp ∧ l < st.mem.length := fun i l r' hi hr hm => by
    obtain ⟨r0, e1, e2, e3⟩ := hsel0 i l hi
    rcases e2 with e2 | e2
    · exfalso
      obtain ⟨o, q1, q2⟩ := (hfr.m.side i r' hr hm).2.nc
      obtain ⟨_, cs, T, g, _⟩ := h.fr.m.row l r0 e1 e2
      obtain ⟨cs', g', _⟩ := ht.shape _ _ _ _ g
      rw [hρ' i l hi, g'] at q1
      exact q2 _ _ _ (Option.some.inj q1).symm
    · exact ⟨r0, e1, e2, e3⟩
  have freshm : ∀ (i : Nat) (r : Row), rows'[sel.length + i]? = some r → r.s = .mp → w.heap.size ≤ (ρ' (sel.length + i)).b := fun i r hi hm =>
    hfr.sfresh _ r hi hm (by simp only; omega)
  have selOwn : ∀ (i l : Nat) (r' : Row), sel[i]? = some l → rows'[i]? = some r' → r'.s.isOwn → ∃ r0 : Row, st.mem[l]? = some r0 ∧ r0.s.isOwn := fun i l r' hi hr ho => by
    obtain ⟨r0, e1, e2, e3⟩ := hsel i l r' hi hr (RS.live_of_own ho)
    have hb : (ρ' i).b < w.heap.size := by rw [hρ' i l hi]; exact h.lt e1 e2
    obtain ⟨l2, r2, f1, f2, f3, f4⟩ := hE _ (hfr.own i r' hr ho hb)
    rw [hρ' i l hi] at f4
    by_cases e : l = l2
    · subst e; exact ⟨r2, f2, f3⟩
    · exact absurd f4 (h.fr.m.apart l l2 r0 r2 e e1 f2 e2 (RS.live_of_own f3))
  refine ⟨ρ2, ⟨⟨⟨fun l r hl hlive => ?_, fun l1 l2 r1 r2 hne h1 h2 hs1 hs2 => ?_, fun l r hl ho hb => ?_, fun l r hl hi => ?_, hfr.m.lt, fun l r hl hm => ?_, fun l1 l2 r1 r2 hne h1 h2 hs1 hs2 => ?_⟩, hfr.os.trans h.fr.os, hfr.tape.trans h.fr.tape, hfr.output.trans h.fr.output, Nat.le_trans h.fr.size hfr.size, fun b hb he => ?_, fun b c2 T2 fz hb => ?_, fun b hb hlt => ?_, fun b hb => hI b (h.fr.new b hb), fun l r hl ho hlt => ?_, fun l r hl ho hk => ?_, by simp only [pl]; exact Nat.le_trans h.fr.k0 (Nat.le_add_right _ _), fun l hl => ?_, fun l r hl hm hk => ?_, h.fr.gl.mono hI ht⟩, h.defers, h.size, fun t => up (h.slot t)⟩, ⟨hfr.size, fun b hb hne => ?_, h2lt, fun hn => (by cases hn), fun l r hl hs1 => ?_, fun l r hl ho => ?_⟩, fun p v hv => ren hv⟩
  · rcases pg l r hl with ⟨n1, e⟩ | ⟨i, r', e1, e2, rfl⟩ | ⟨i, r', rfl, e2, rfl⟩
    · rw [h2lt l (getLt e)]
      obtain ⟨h1, cs, T, h2, h3⟩ := h.fr.m.row l r e hlive
      refine ⟨h1, cs, T, ?_, fun i hi j hj => ?_⟩
      · rw [hfr.block _ (h.lt e hlive) (fun he => by
          obtain ⟨l2, r2, f1, f2, f3, f4⟩ := hE _ he
          by_cases e' : l = l2
          · subst e'; exact n1 f1
          · exact h.fr.m.apart l l2 r r2 e' e f2 hlive (RS.live_of_own f3) f4)]
        exact h2
      · obtain ⟨u, g1, g2, g3⟩ := h3 i hi j hj; exact ⟨u, g1, g2, up g3⟩
    · obtain ⟨r0, _, _, hml⟩ := hsel0 i l e1
      rw [h2lt l hml, ← hρ' i l e1]
      obtain ⟨h1, cs, T, h2, h3⟩ := hfr.m.row i r' e2 hlive
      exact ⟨h1, cs, T, h2, fun x hx y hy => by obtain ⟨u, g1, g2, g3⟩ := h3 x hx y hy; exact ⟨u, g1, g2, ren g3⟩⟩
    · rw [h2ge]
      obtain ⟨h1, cs, T, h2, h3⟩ := hfr.m.row _ r' e2 hlive
      exact ⟨h1, cs, T, h2, fun x hx y hy => by obtain ⟨u, g1, g2, g3⟩ := h3 x hx y hy; exact ⟨u, g1, g2, ren g3⟩⟩
  · rcases pg l1 r1 h1 with ⟨n1, e1⟩ | ⟨i1, q1, e1, f1, rfl⟩ | ⟨i1, q1, rfl, f1, rfl⟩ <;> rcases pg l2 r2 h2 with ⟨n2, e2⟩ | ⟨i2, q2, e2, f2, rfl⟩ | ⟨i2, q2, rfl, f2, rfl⟩
    · rw [h2lt _ (getLt e1), h2lt _ (getLt e2)]; exact h.fr.m.apart _ _ _ _ hne e1 e2 hs1 hs2
    · obtain ⟨r0, g1, g2, g3⟩ := hsel i2 l2 q2 e2 f2 hs2
      rw [h2lt _ (getLt e1), h2lt _ g3]; exact h.fr.m.apart _ _ _ _ hne e1 g1 hs1 g2
    · have := fresh i2 q2 f2 hs2
      have := h.lt e1 hs1
      rw [h2lt _ (getLt e1), h2ge]; omega
    · obtain ⟨r0, g1, g2, g3⟩ := hsel i1 l1 q1 e1 f1 hs1
      rw [h2lt _ (getLt e2), h2lt _ g3]; exact h.fr.m.apart _ _ _ _ hne g1 e2 g2 hs2
    · obtain ⟨r0, g1, g2, g3⟩ := hsel i1 l1 q1 e1 f1 hs1
      obtain ⟨r0', g1', g2', g3'⟩ := hsel i2 l2 q2 e2 f2 hs2
      rw [h2lt _ g3, h2lt _ g3']; exact h.fr.m.apart _ _ _ _ hne g1 g1' g2 g2'
    · obtain ⟨r0, g1, g2, g3⟩ := hsel i1 l1 q1 e1 f1 hs1
      have := fresh i2 q2 f2 hs2
      have := h.lt g1 g2
      rw [h2lt _ g3, h2ge]; omega
    · have := fresh i1 q1 f1 hs1
      have := h.lt e2 hs2
      rw [h2lt _ (getLt e2), h2ge]; omega
    · obtain ⟨r0, g1, g2, g3⟩ := hsel i2 l2 q2 e2 f2 hs2
      have := fresh i1 q1 f1 hs1
      have := h.lt g1 g2
      rw [h2lt _ g3, h2ge]; omega
    · rw [h2ge, h2ge]; exact hfr.m.apart _ _ _ _ (by omega) f1 f2 hs1 hs2
  · rcases pg l r hl with ⟨n1, e⟩ | ⟨i, r', e1, e2, rfl⟩ | ⟨i, r', rfl, e2, rfl⟩
    · rw [h2lt l (getLt e)] at hb
      rcases hI2 _ hb with hb | hb
      · exact h.fr.m.mine l r e ho hb
      · have := h.lt e (RS.live_of_own ho); omega
    · obtain ⟨r0, _, _, hml⟩ := hsel0 i l e1
      rw [h2lt l hml, ← hρ' i l e1] at hb
      exact hfr.m.mine i r' e2 ho hb
    · rw [h2ge] at hb; exact hfr.m.mine _ r' e2 ho hb
  · rcases pg l r hl with ⟨n1, e⟩ | ⟨i, r', e1, e2, rfl⟩ | ⟨i, r', rfl, e2, rfl⟩
    · rw [h2lt l (getLt e)]; exact hI _ (h.fr.m.imm l r e hi)
    · obtain ⟨r0, _, _, hml⟩ := hsel0 i l e1
      rw [h2lt l hml, ← hρ' i l e1]
      exact hfr.m.imm i r' e2 hi
    · rw [h2ge]; exact hfr.m.imm _ r' e2 hi
  · rcases pg l r hl with ⟨n1, e⟩ | ⟨i, r', e1, e2, rfl⟩ | ⟨i, r', rfl, e2, rfl⟩
    · rw [h2lt l (getLt e)]
      obtain ⟨g1, g2⟩ := h.fr.m.side l r e hm
      refine ⟨fun hb => ?_, g2.up (Nat.le_refl _) rfl hnc fun i hi j hj v hv => up hv⟩
      rcases hI2 _ hb with hb | hb
      · exact g1 hb
      · have := g2.lt; omega
    · obtain ⟨r0, _, _, hml⟩ := hsel0 i l e1
      rw [h2lt l hml, ← hρ' i l e1]
      obtain ⟨g1, g2⟩ := hfr.m.side i r' e2 hm
      exact ⟨g1, g2.up (Nat.le_refl _) rfl (.refl _) fun i hi j hj v hv => ren hv⟩
    · rw [h2ge]
      obtain ⟨g1, g2⟩ := hfr.m.side _ r' e2 hm
      exact ⟨g1, g2.up (Nat.le_refl _) rfl (.refl _) fun i hi j hj v hv => ren hv⟩
  · have sl : ∀ (l : Nat) (r : Row), st.mem[l]? = some r → r.s = .mp → (ρ l).b < w.heap.size := fun l r hl hm => (h.fr.m.side l r hl hm).2.lt
    rcases pg l1 r1 h1 with ⟨n1, e1⟩ | ⟨i1, q1, e1, f1, rfl⟩ | ⟨i1, q1, rfl, f1, rfl⟩ <;> rcases pg l2 r2 h2 with ⟨n2, e2⟩ | ⟨i2, q2, e2, f2, rfl⟩ | ⟨i2, q2, rfl, f2, rfl⟩
    · rw [h2lt _ (getLt e1), h2lt _ (getLt e2)]; exact h.fr.m.sap _ _ _ _ hne e1 e2 hs1 hs2
    · obtain ⟨r0, g1, g2, g3⟩ := hselm i2 l2 q2 e2 f2 hs2
      rw [h2lt _ (getLt e1), h2lt _ g3]; exact h.fr.m.sap _ _ _ _ hne e1 g1 hs1 g2
    · have := freshm i2 q2 f2 hs2
      have := sl _ _ e1 hs1
      rw [h2lt _ (getLt e1), h2ge]; omega
    · obtain ⟨r0, g1, g2, g3⟩ := hselm i1 l1 q1 e1 f1 hs1
      rw [h2lt _ (getLt e2), h2lt _ g3]; exact h.fr.m.sap _ _ _ _ hne g1 e2 g2 hs2
    · obtain ⟨r0, g1, g2, g3⟩ := hselm i1 l1 q1 e1 f1 hs1
      obtain ⟨r0', g1', g2', g3'⟩ := hselm i2 l2 q2 e2 f2 hs2
      rw [h2lt _ g3, h2lt _ g3']; exact h.fr.m.sap _ _ _ _ hne g1 g1' g2 g2'
    · obtain ⟨r0, g1, g2, g3⟩ := hselm i1 l1 q1 e1 f1 hs1
      have := freshm i2 q2 f2 hs2
      have := sl _ _ g1 g2
      rw [h2lt _ g3, h2ge]; omega
    · have := freshm i1 q1 f1 hs1
      have := sl _ _ e2 hs2
      rw [h2lt _ (getLt e2), h2ge]; omega
    · obtain ⟨r0, g1, g2, g3⟩ := hselm i2 l2 q2 e2 f2 hs2
      have := freshm i1 q1 f1 hs1
      have := sl _ _ g1 g2
      rw [h2lt _ g3, h2ge]; omega
    · rw [h2ge, h2ge]; exact hfr.m.sap _ _ _ _ (by omega) f1 f2 hs1 hs2
  · rw [hfr.block b (Nat.lt_of_lt_of_le hb h.fr.size) (fun hE2 => by
      obtain ⟨l2, r2, f1, f2, f3, rfl⟩ := hE _ hE2
      exact he (h.fr.own l2 r2 f2 f3 hb))]
    exact h.fr.block b hb he
  · obtain ⟨cs1, h1, h2⟩ := h.fr.shape b c2 T2 fz hb
    obtain ⟨cs2, h3, h4⟩ := ht.shape b cs1 T2 fz h1
    exact ⟨cs2, h3, h4.trans h2⟩
  · exact h.fr.old b (hfr.old b hb (Nat.lt_of_lt_of_le hlt h.fr.size)) hlt
  · rcases pg l r hl with ⟨n1, e⟩ | ⟨i, r', e1, e2, rfl⟩ | ⟨i, r', rfl, e2, rfl⟩
    · rw [h2lt l (getLt e)] at hlt ⊢; exact h.fr.own l r e ho hlt
    · obtain ⟨r0, _, _, hml⟩ := hsel0 i l e1
      rw [h2lt l hml] at hlt ⊢
      obtain ⟨r2, f1, f2⟩ := selOwn i l r' e1 e2 ho
      exact h.fr.own l r2 f1 f2 hlt
    · rw [h2ge] at hlt
      have := fresh i r' e2 (RS.live_of_own ho)
      have := h.fr.size
      omega
  · rcases pg l r hl with ⟨n1, e⟩ | ⟨i, r', e1, e2, rfl⟩ | ⟨i, r', rfl, e2, rfl⟩
    · rw [h2lt l (getLt e)]; exact h.fr.fresh l r e ho hk
    · obtain ⟨r0, _, _, hml⟩ := hsel0 i l e1
      rw [h2lt l hml]
      obtain ⟨r2, f1, f2⟩ := selOwn i l r' e1 e2 ho
      exact h.fr.fresh l r2 f1 f2 hk
    · rw [h2ge]
      have := fresh i r' e2 (RS.live_of_own ho)
      have := h.fr.size
      omega
  · rw [h2lt l (Nat.lt_of_lt_of_le hl h.fr.k0)]; exact h.fr.ρ0 l hl
  · rcases pg l r hl with ⟨n1, e⟩ | ⟨i, r', e1, e2, rfl⟩ | ⟨i, r', rfl, e2, rfl⟩
    · rw [h2lt l (getLt e)]; exact h.fr.sfresh l r e hm hk
    · obtain ⟨r0, g1, g2, g3⟩ := hselm i l r' e1 e2 hm
      rw [h2lt l g3]; exact h.fr.sfresh l r0 g1 g2 hk
    · rw [h2ge]
      have := freshm i r' e2 hm
      have := h.fr.size
      omega
  · exact hfr.block b hb (fun hE2 => by
      obtain ⟨l2, r2, f1, f2, f3, f4⟩ := hE _ hE2
      exact hne l2 r2 f1 f2 f3 f4)
  · rcases pg l r hl with ⟨n1, e⟩ | ⟨i, r', e1, e2, rfl⟩ | ⟨i, r', rfl, e2, rfl⟩
    · exact .inl ⟨getLt e, r, e, hs1⟩
    · obtain ⟨r0, g1, g2, g3⟩ := hsel i l r' e1 e2 hs1
      exact .inl ⟨g3, r0, g1, g2⟩
    · exact .inr ⟨by omega, .inl (by rw [h2ge]; exact fresh i r' e2 hs1)⟩
  · rcases pg l r hl with ⟨n1, e⟩ | ⟨i, r', e1, e2, rfl⟩ | ⟨i, r', rfl, e2, rfl⟩
    · exact .inl ⟨getLt e, r, e, ho⟩
    · obtain ⟨r0, g1, g2, g3⟩ := hsel i l r' e1 e2 (RS.live_of_own ho)
      obtain ⟨r2, f1, f2⟩ := selOwn i l r' e1 e2 ho
      exact .inl ⟨g3, r2, f1, f2⟩
    · exact .inr ⟨by omega, .inl (by rw [h2ge]; exact fresh i r' e2 (RS.live_of_own ho))⟩
end
open Go.RowKit
def capL : Nat → (Nat → PV) → Nat → List PV
  | 0, _, _ => []
  | n + 1, c, i => c i :: capL n c (i + 1)
theorem capL_nth (c : Nat → PV) : ∀ (n i j : Nat), j < n → nthP (capL n c i) j = c (i + j)
  | 0, _, _, h => by omega
  | n + 1, i, 0, _ => rfl
  | n + 1, i, j + 1, h => by
    rw [capL, nthP, capL_nth c n (i + 1) j (by omega)]; congr 1; omega
theorem capL_length (c : Nat → PV) : ∀ (n i : Nat), (capL n c i).length = n
  | 0, _ => rfl
  | n + 1, i => by simp [capL, capL_length c n]
theorem nthP_append : ∀ (l m : List PV) (i : Nat), nthP (l ++ m) i = if i < l.length then nthP l i else nthP m (i - l.length)
  | [], m, i => by simp
  | p :: l, m, 0 => by simp [nthP]
  | p :: l, m, i + 1 => by
    rw [List.cons_append, nthP, nthP_append l m i]
    by_cases h : i < l.length
    · rw [if_pos h, if_pos (by simpa using h), nthP]
    · rw [if_neg h, if_neg (by simpa using h)]; simp
theorem nthP_ren (τ : Nat → Option Nat) : ∀ (l : List PV) (i : Nat), nthP (l.map (PV.ren τ)) i = (nthP l i).ren τ
  | [], i => rfl
  | p :: l, 0 => rfl
  | p :: l, i + 1 => nthP_ren τ l i
def appK {α : Type} : List Row → List Row → (List Row → Option α) → Option α
  | [], e, k => k e
  | r :: m, e, k => appK m e fun m' => k (r :: m')
theorem appK_eq {α : Type} : ∀ (m e : List Row) (k : List Row → Option α), appK m e k = k (m ++ e)
  | [], e, k => rfl
  | r :: m, e, k => by rw [appK, appK_eq m e]; rfl
def lenK (m : List Row) (n : Nat) : Nat := match m with
  | [] => n
  | _ :: m => lenK m (n + 1)
theorem lenK_eq : ∀ (m : List Row) (n : Nat), lenK m n = n + m.length
  | [], n => rfl
  | _ :: m, n => by rw [lenK, lenK_eq m]; simp; omega
def nodupB : List Nat → Bool
  | [] => true
  | x :: l => !(l.any (Nat.beq x)) && nodupB l
theorem nodupB_ok : ∀ (l : List Nat), nodupB l = true → l.Nodup
  | [], _ => List.nodup_nil
  | x :: l, h => by
    rw [nodupB, Bool.and_eq_true] at h
    refine List.nodup_cons.2 ⟨fun hm => ?_, nodupB_ok l h.2⟩
    rw [(any_beq l x).2 hm] at h; simp at h
section
variable {G : Pg} {N : Nat} {Γ : Fr} {st : PSt} {ρ : Nat → Loc} {I : Nat → Prop} {a : Act} {w : World}
variable {K : Exit → PSt → Prop} {ops : Array Oper} {o : Oper} {rest : List Oper} {d : Nat}
theorem rows_core {f : FuncId} {x : Operand} {args : Array Operand} {tys : Array TypeId} {n : Nat} {c : Nat → PV} {rows : List Row} {qs : List PV} {post : PV → List Row → Prop} {K' : Act → World → Prop} {Q : Exit → Act → World → Prop} (sel : List Nat) (hrel : Rel N Γ st ρ I a w)
    (ho : o.op = .call ⟨.value x, args, tys⟩) (hx : VRel st.mem.length ρ I w (.clo f n c) (a.eval x)) (hd : nodupB sel = true) (hs : SelOk st.mem sel sel rows) (hc : RowsC G.P f rows qs post) (ha : PEqL ((args.toList.map st.ev ++ capL n c 0).map (PV.ren (inv sel 0))) qs)
    (h : ∀ v r rows' ρ2 I' w', post r rows' → Rel N Γ ⟨st.tm, putRows (tau sel st.mem.length) sel rows' st.mem⟩ ρ2 I' a w' → Chg st ρ I w sel false ⟨st.tm, putRows (tau sel st.mem.length) sel rows' st.mem⟩ ρ2 I' w' → VRel (putRows (tau sel st.mem.length) sel rows' st.mem).length ρ2 I' w' (r.ren (tau sel st.mem.length)) v → K' (a.put o.dst v) w') : o.wp G.P a w K' Q := by
  obtain ⟨cap, e1, e2, e3⟩ := hx
  have hnd := nodupB_ok sel hd
  have hlen := (SelOk.get sel rows hs).1
  simp only [Oper.wp, call_run hc.1 ho e1, Oper.upon_enter]
  obtain ⟨ql, qv⟩ := PEqL.get ha
  have hcall := hc.2 (sub sel ρ) I w (args.toList.map a.eval ++ cap.toList) (hrel.fr.m.sel hs hnd) hrel.fr.gl (by rw [ql]; simp [capL_length, e2]) (fun i hi => by
    rw [ql] at hi
    refine qv i hi _ _ _ _ _ ?_
    rw [nthP_ren]
    refine VRel.ren (k := st.mem.length) (inv_ok hlen) _ _ ?_
    rw [nthP_append]
    simp only [List.length_map, List.length_append, capL_length] at hi ⊢
    by_cases hlt : i < args.toList.length
    · rw [if_pos hlt]
      have := evs_rel hrel args.toList i (by simpa using hlt)
      have e : (args.toList.map a.eval ++ cap.toList).getD i undef = (args.toList.map a.eval).getD i undef := by
        simp only [List.getD]; rw [List.getElem?_append_left (by simpa using hlt)]
      rw [e]; exact this
    · rw [if_neg hlt, capL_nth c n 0 _ (by omega), Nat.zero_add]
      have := e3 (i - args.toList.length) (by omega)
      have e : (args.toList.map a.eval ++ cap.toList).getD i undef = cap.getD (i - args.toList.length) undef := by
        simp only [List.getD]; rw [List.getElem?_append_right (by simpa using Nat.le_of_not_lt hlt)]
        simp [Array.getD_eq_getD_getElem?]
      rw [e]; exact this)
  have eargs : (args.map a.eval ++ cap) = (args.toList.map a.eval ++ cap.toList).toArray := by apply Array.ext'; simp
  rw [eargs]
  refine hcall.mono ?_
  rintro e w' ⟨v, r, rows', ρ', I', rfl, hpost, hex, hfr, hv⟩
  obtain ⟨ρ2, h1, h3, h2⟩ := hrel.rowsCall hs hnd hex hfr
  exact h v r rows' ρ2 I' w' hpost h1 h3 (h2 r v hv)
def TmOk (st : PSt) (sel : List Nat) : List (Nat × PV) → Prop
  | [] => True
  | (t, p) :: tm => PEq ((st.get t).ren (inv sel 0)) p ∧ TmOk st sel tm
end
open Go.RowKit
theorem PEq.cl {τ : Nat → Option Nat} : ∀ (p : PV), Cl p → PEq (p.ren τ) p := by
  intro p
  induction p with
  | junk => intro _; exact PEq.refl _
  | val x => intro _; exact PEq.refl _
  | agg n f ih => intro hc; exact .agg fun i hi => ih i (hc i hi)
  | tup n f ih => intro hc; exact .tup fun i hi => ih i (hc i hi)
  | ptr l i j => intro hc; exact hc.elim
  | lsl l i n => intro hc; exact hc.elim
  | vsl n sz f ih => intro _; exact PEq.refl _
  | csl n sz f ih => intro _; exact PEq.refl _
  | vmap c ih => intro _; exact PEq.refl _
  | vptr n sz f i j ih => intro _; exact PEq.refl _
  | opt b p ih => intro hc k ρ I w v hv; exact ⟨fun hb => ih hc _ _ _ _ _ (hv.1 hb), hv.2⟩
  | clo f n c ih => intro hc; exact .clo fun i hi => ih i (hc i hi)
  | mref l => intro hc; exact hc.elim
theorem RowEq.cl {τ : Nat → Option Nat} {r : Row} (h : rowCl r) : RowEq (r.ren τ) r := ⟨rfl, rfl, Nat.le_refl _, fun i hi j hj => PEq.cl _ (h i hi j hj)⟩
theorem RowEq.trans {a b c : Row} (h : RowEq a b) (k : RowEq b c) : RowEq a c := by
  obtain ⟨h1, h2, h3, h4⟩ := h
  obtain ⟨k1, k2, k3, k4⟩ := k
  exact ⟨k1.trans h1, k2.trans h2, Nat.le_trans k3 h3, fun i hi j hj => fun a b c d v hv => k4 i hi j hj _ _ _ _ _ (h4 i (Nat.lt_of_lt_of_le hi k3) j (by rw [← k2]; exact hj) _ _ _ _ _ hv)⟩
theorem Rel.rowsEq {N : Nat} {Γ : Fr} {tm : List (Nat × PV)} {m m' : List Row} {ρ : Nat → Loc} {I : Nat → Prop} {a : Act} {w : World} (h : Rel N Γ ⟨tm, m⟩ ρ I a w) (hl : m'.length = m.length) (he : ∀ (l : Nat) (r' : Row), m'[l]? = some r' → ∃ r : Row, m[l]? = some r ∧ RowEq r r') : Rel N Γ ⟨tm, m'⟩ ρ I a w := by
  refine ⟨⟨⟨fun l r' hr hs => ?_, fun l l' r1 r2 hne h1 h2 hs1 hs2 => ?_, fun l r' hr ho => ?_, fun l r' hr hi => ?_, h.fr.m.lt, fun l r' hr hm => ?_, fun l l' r1 r2 hne h1 h2 hs1 hs2 => ?_⟩, h.fr.os, h.fr.tape, h.fr.output, h.fr.size, h.fr.block, h.fr.shape, h.fr.old, h.fr.new, fun l r' hr ho hlt => ?_, fun l r' hr ho hk => ?_, by simp only [hl]; exact h.fr.k0, h.fr.ρ0, fun l r' hr hm hk => ?_, h.fr.gl⟩, h.defers, h.size, fun t => by simp only [hl]; exact h.slot t⟩
  · obtain ⟨r, e1, e2, e3, e4, e5⟩ := he l r' hr
    obtain ⟨h1, cs, T, h2, h3⟩ := h.fr.m.row l r e1 (by rw [← e2]; exact hs)
    refine ⟨h1.trans e3.symm, cs, T, h2, fun i hi j hj => ?_⟩
    obtain ⟨u, g1, g2, g3⟩ := h3 i (Nat.lt_of_lt_of_le hi e4) j (by rw [← e3]; exact hj)
    refine ⟨u, by rw [e3]; exact g1, g2, ?_⟩
    rw [hl]
    exact e5 i hi j hj _ _ _ _ _ g3
  · obtain ⟨q1, e1, e2, _⟩ := he l r1 h1
    obtain ⟨q2, f1, f2, _⟩ := he l' r2 h2
    exact h.fr.m.apart l l' q1 q2 hne e1 f1 (by rw [← e2]; exact hs1) (by rw [← f2]; exact hs2)
  · obtain ⟨r, e1, e2, _⟩ := he l r' hr
    exact h.fr.m.mine l r e1 (by rw [← e2]; exact ho)
  · obtain ⟨r, e1, e2, _⟩ := he l r' hr
    exact h.fr.m.imm l r e1 (by rw [← e2]; exact hi)
  · obtain ⟨r, e1, e2, e3, e4, e5⟩ := he l r' hr
    obtain ⟨g1, g2⟩ := h.fr.m.side l r e1 (by rw [← e2]; exact hm)
    exact ⟨g1, g2.up e4 e3 (.refl _) fun i hi j hj v hv => by rw [hl]; exact e5 i hi j hj _ _ _ _ _ hv⟩
  · obtain ⟨q1, e1, e2, _⟩ := he l r1 h1
    obtain ⟨q2, f1, f2, _⟩ := he l' r2 h2
    exact h.fr.m.sap l l' q1 q2 hne e1 f1 (by rw [← e2]; exact hs1) (by rw [← f2]; exact hs2)
  · obtain ⟨r, e1, e2, _⟩ := he l r' hr
    exact h.fr.own l r e1 (by rw [← e2]; exact ho) hlt
  · obtain ⟨r, e1, e2, _⟩ := he l r' hr
    exact h.fr.fresh l r e1 (by rw [← e2]; exact ho) hk
  · obtain ⟨r, e1, e2, _⟩ := he l r' hr
    exact h.fr.sfresh l r e1 (by rw [← e2]; exact hm) hk
theorem SelOk.nil {mem : List Row} {s0 : List Nat} : SelOk mem s0 [] [] := trivial
theorem SelOk.cons {mem : List Row} {s0 : List Nat} {l : Nat} {s : List Nat} {r0 r : Row} {rs : List Row} (h1 : rowAt mem l = some r0) (h2 : r0.s.live) (h3 : RowEq (r0.ren (inv s0 0)) r) (h : SelOk mem s0 s rs) : SelOk mem s0 (l :: s) (r :: rs) := ⟨⟨r0, h1, .inl h2, h3⟩, h⟩
theorem PEqL.nil : PEqL [] [] := trivial
theorem PEqL.cons {p q : PV} {ps qs : List PV} (h : PEq p q) (k : PEqL ps qs) : PEqL (p :: ps) (q :: qs) := ⟨h, k⟩
def putP {α : Type} : List Nat → List Row → List Row → (List Row → Option α) → Option α
  | [], ext, mem, k => appK mem ext k
  | l :: s, r :: rows, mem, k => setM mem l r fun mem' => putP s rows mem' k
  | _ :: _, [], mem, k => k mem
def putPl : List Nat → List Row → List Row → List Row
  | [], ext, mem => mem ++ ext
  | l :: s, r :: rows, mem => putPl s rows (mem.set l r)
  | _ :: _, [], mem => mem
theorem putP_eq {α : Type} : ∀ (s : List Nat) (rows mem : List Row) (k : List Row → Option α), putP s rows mem k = k (putPl s rows mem)
  | [], ext, mem, k => by rw [putP, appK_eq, putPl]
  | l :: s, r :: rows, mem, k => by rw [putP, setM_eq, putP_eq s rows, putPl]
  | _ :: _, [], mem, k => rfl
def rowsCl : List Row → Prop
  | [] => True
  | r :: m => rowCl r ∧ rowsCl m
theorem putPl_eq (τ : Nat → Option Nat) : ∀ (s : List Nat) (rows mem mem' : List Row), rowsCl rows → mem'.length = mem.length → (∀ (l : Nat) (r' : Row), mem'[l]? = some r' → ∃ r : Row, mem[l]? = some r ∧ RowEq r r') →
    (putPl s rows mem').length = (putRows τ s rows mem).length ∧ ∀ (l : Nat) (r' : Row), (putPl s rows mem')[l]? = some r' → ∃ r : Row, (putRows τ s rows mem)[l]? = some r ∧ RowEq r r'
  | [], ext, mem, mem', hc, hl, he => by
    refine ⟨by simp [putPl, putRows, hl], fun l r' h => ?_⟩
    rw [putPl] at h
    rw [putRows]
    by_cases hlt : l < mem'.length
    · rw [List.getElem?_append_left hlt] at h
      rw [List.getElem?_append_left (by omega)]
      exact he l r' h
    · rw [List.getElem?_append_right (by omega)] at h
      rw [List.getElem?_append_right (by omega), List.getElem?_map]
      rw [hl] at h
      refine ⟨r'.ren τ, by rw [h]; rfl, RowEq.cl ?_⟩
      have : ∀ (m : List Row) (i : Nat), rowsCl m → m[i]? = some r' → rowCl r' := by
        intro m
        induction m with
        | nil => intro i _ h; simp at h
        | cons x m ih =>
          intro i hm h
          cases i with
          | zero => simp at h; subst h; exact hm.1
          | succ i => exact ih i hm.2 (by simpa using h)
      exact this ext _ hc h
  | x :: s, r :: rows, mem, mem', hc, hl, he => by
    rw [putPl, putRows]
    refine putPl_eq τ s rows _ _ hc.2 (by simp [hl]) (fun l r' h => ?_)
    by_cases e : l = x
    · subst e
      by_cases hlt : l < mem'.length
      · rw [List.getElem?_set_self hlt] at h
        simp only [Option.some.injEq] at h
        subst h
        exact ⟨r.ren τ, List.getElem?_set_self (by omega), RowEq.cl hc.1⟩
      · rw [List.getElem?_eq_none (by simp; omega)] at h; cases h
    · rw [List.getElem?_set_ne (Ne.symm e)] at h
      rw [List.getElem?_set_ne (Ne.symm e)]
      exact he l r' h
  | _ :: _, [], mem, mem', _, hl, he => ⟨by simp [putPl, putRows, hl], fun l r' h => he l r' h⟩
section
variable {G : Pg} {N : Nat} {Γ : Fr} {st : PSt}
variable {K : Exit → PSt → Prop} {ops : Array Oper} {o : Oper} {rest : List Oper} {d : Nat}
theorem pop_rowsc {f : FuncId} {x : Operand} {args : Array Operand} {tys : Array TypeId} {n : Nat} {c : Nat → PV} {rows : List Row} {qs : List PV} {post : PV → List Row → Prop} (sel : List Nat) (hg : o.guard = none) (hdst : o.dst = some d) (hN : Nat.blt d N = true)
    (ho : o.op = .call ⟨.value x, args, tys⟩) (hx : st.ev x = .clo f n c) (hd : nodupB sel = true) (hs : SelOk st.mem sel sel rows) (hc : RowsC G.P f rows qs post) (ha : PEqL ((args.toList.map st.ev ++ capL n c 0).map (PV.ren (inv sel 0))) qs)
    (h : ∀ r rows', post r rows' → ∃ m r', putP sel rows' st.mem some = some m ∧ rowsCl rows' ∧ force (r.ren (tau sel (lenK st.mem 0))) (fun p => some (p, True)) = some (r', True) ∧ POps G N Γ ops rest (PSt.put ⟨st.tm, m⟩ d r') K) : POps G N Γ ops (o :: rest) st K := .mk fun ρ I a w hrel => by
  have hw : Region.wanted o (yielded ops a.tmps) = true := by simp [Region.wanted, hg]
  simp only [wpList, hw, if_true]
  refine .inl (rows_core sel hrel ho (hx ▸ ev_rel hrel x) hd hs hc ha ?_)
  intro v r rows' ρ2 I' w' hpost hr _ hv
  obtain ⟨m, r', e1, hcl, e2, hk⟩ := h r rows' hpost
  rw [putP_eq] at e1
  rw [force_eq, lenK_eq, Nat.zero_add] at e2
  simp only [Option.some.injEq, Prod.mk.injEq, and_true] at e1 e2
  obtain ⟨q1, q2⟩ := putPl_eq (tau sel st.mem.length) sel rows' st.mem st.mem hcl rfl (fun l r' h => ⟨r', h, RowEq.refl _⟩)
  have hr2 := hr.rowsEq q1 q2
  rw [← q1] at hv
  rw [e1] at hr2 hv
  rw [e2] at hv
  simp only [hdst]
  exact hk.go ρ2 I' _ w' (hr2.put (by rwa [Nat.blt_eq] at hN) hv)
end
section
variable {G : Pg2} {N : Nat} {Γ : Fr} {st : PSt}
variable {ops : Array Oper} {o : Oper} {d : Nat}
theorem pst_rowsc {K' : PSt → Prop} {f : FuncId} {x : Operand} {args : Array Operand} {tys : Array TypeId} {n : Nat} {c : Nat → PV} {rows : List Row} {qs : List PV} {post : PV → List Row → Prop} (sel : List Nat) (hg : o.guard = none) (hdst : o.dst = some d) (hN : Nat.blt d N = true)
    (ho : o.op = .call ⟨.value x, args, tys⟩) (hx : st.ev x = .clo f n c) (hd : nodupB sel = true) (hs : SelOk st.mem sel sel rows) (hc : RowsC G.P f rows qs post) (ha : PEqL ((args.toList.map st.ev ++ capL n c 0).map (PV.ren (inv sel 0))) qs)
    (h : ∀ r rows', post r rows' → ∃ m r', putP sel rows' st.mem some = some m ∧ rowsCl rows' ∧ force (r.ren (tau sel (lenK st.mem 0))) (fun p => some (p, True)) = some (r', True) ∧ K' (PSt.put ⟨st.tm, m⟩ d r')) : PStep G N Γ ops o st sel false K' := .mk fun ρ I a w hrel Q => by
  have hw : Region.wanted o (yielded ops a.tmps) = true := by simp [Region.wanted, hg]
  rw [if_pos hw]
  refine rows_core (G := G.toPg) sel hrel ho (hx ▸ ev_rel hrel x) hd hs hc ha ?_
  intro v r rows' ρ2 I' w' hpost hr hch hv
  obtain ⟨m, r', e1, hcl, e2, hk⟩ := h r rows' hpost
  rw [putP_eq] at e1
  rw [force_eq, lenK_eq, Nat.zero_add] at e2
  simp only [Option.some.injEq, Prod.mk.injEq, and_true] at e1 e2
  obtain ⟨q1, q2⟩ := putPl_eq (tau sel st.mem.length) sel rows' st.mem st.mem hcl rfl (fun l r' h => ⟨r', h, RowEq.refl _⟩)
  have hr2 := hr.rowsEq q1 q2
  rw [← q1] at hv
  rw [e1] at hr2 hv q2
  rw [e2] at hv
  rw [hdst]
  refine ⟨_, ρ2, I', hk, hr2.put (by rwa [Nat.blt_eq] at hN) hv, hch.size, hch.same, hch.loc, hch.imm, fun l r1 hl hs1 => ?_, fun l r1 hl ho1 => ?_⟩
  · obtain ⟨r2, f1, f2, _⟩ := q2 l r1 hl
    exact hch.live l r2 f1 (by rw [← f2]; exact hs1)
  · obtain ⟨r2, f1, f2, _⟩ := q2 l r1 hl
    exact hch.own l r2 f1 (by rw [← f2]; exact ho1)
theorem pst_make {K' : PSt → Prop} {r : PV} {m : List Row} {pre : Prop} (hg : o.guard = none) (hd : o.dst = some d) (hN : Nat.blt d N = true) (hr : pmake G.tab st o.op = some (r, m, pre)) (hp : pre) (h : K' (PSt.put ⟨st.tm, m⟩ d r)) : PStep G N Γ ops o st [] true K' := .mk fun ρ I a w hrel Q => by
  obtain ⟨v, w', ρ', hv, hmade⟩ := pmake_sound (G := G.toPg) hrel o hr hp
  have hw : Region.wanted o (yielded ops a.tmps) = true := by simp [Region.wanted, hg]
  rw [if_pos hw]
  simp only [Oper.wp, hv, Oper.upon_value, hd]
  exact ⟨_, ρ', I, h, hmade.rel.put (by rwa [Nat.blt_eq] at hN) hmade.val, chg_new hmade d⟩
end
end Go.Proofs.YtcefhgomkehokaaGreat
set_option maxRecDepth 100000
namespace Go.Proofs.YtcefhgomkehokaaGreat
def tab : List TI := [⟨1, 0, .other, some (.tuple #[])⟩,
  ⟨1, 8, .other, some .nilFunc⟩,
  ⟨1, 8, .int .i64, some (.int Go.IntKind.i64 0)⟩,
  ⟨1, 8, .int .i64, some (.int Go.IntKind.i64 0)⟩,
  ⟨1, 1, .bool, some (.bool false)⟩,
  ⟨1, 1, .int .u8, some (.int Go.IntKind.u8 0)⟩,
  ⟨1, 1, .int .u8, some (.int Go.IntKind.u8 0)⟩,
  ⟨4, 24, .struct [(0, 2), (1, 3), (2, 4), (3, 6)], some (.agg #[(.int Go.IntKind.i64 0), (.int Go.IntKind.i64 0), (.bool false), (.int Go.IntKind.u8 0)])⟩,
  ⟨4, 24, .struct [(0, 2), (1, 3), (2, 4), (3, 6)], some (.agg #[(.int Go.IntKind.i64 0), (.int Go.IntKind.i64 0), (.bool false), (.int Go.IntKind.u8 0)])⟩,
  ⟨1, 16, .string, some (.string { data := #[] })⟩,
  ⟨1, 16, .string, some (.string { data := #[] })⟩,
  ⟨1, 16, .string, some (.string { data := #[] })⟩,
  ⟨1, 8, .int .u64, some (.int Go.IntKind.u64 0)⟩,
  ⟨2, 24, .struct [(0, 9), (1, 12)], some (.agg #[(.string { data := #[] }), (.int Go.IntKind.u64 0)])⟩,
  ⟨2, 24, .struct [(0, 9), (1, 12)], some (.agg #[(.string { data := #[] }), (.int Go.IntKind.u64 0)])⟩,
  ⟨1, 8, .pointer 149, some (.pointer none)⟩,
  ⟨1, 8, .pointer 152, some (.pointer none)⟩,
  ⟨1, 8, .pointer 160, some (.pointer none)⟩,
  ⟨1, 8, .struct [(0, 17)], some (.agg #[(.pointer none)])⟩,
  ⟨1, 8, .struct [(0, 17)], some (.agg #[(.pointer none)])⟩,
  ⟨1, 16, .other, some .nilIface⟩,
  ⟨1, 4, .int .i32, some (.int Go.IntKind.i32 0)⟩,
  ⟨1, 24, .slice 3, some (.slice none 0 0)⟩,
  ⟨1, 8, .pointer 45, some (.pointer none)⟩,
  ⟨1, 8, .other, some .nilFunc⟩,
  ⟨1, 24, .slice 58, some (.slice none 0 0)⟩,
  ⟨2, 40, .struct [(0, 9), (1, 25)], some (.agg #[(.string { data := #[] }), (.slice none 0 0)])⟩,
  ⟨2, 40, .struct [(0, 9), (1, 25)], some (.agg #[(.string { data := #[] }), (.slice none 0 0)])⟩,
  ⟨1, 8, .other, some .nilFunc⟩,
  ⟨1, 8, .other, some .nilFunc⟩,
  ⟨1, 8, .other, some .nilFunc⟩,
  ⟨1, 8, .other, some .nilFunc⟩,
  ⟨1, 8, .other, some .nilFunc⟩,
  ⟨1, 24, .slice 9, some (.slice none 0 0)⟩,
  ⟨1, 8, .other, some .nilFunc⟩,
  ⟨1, 8, .other, some .nilFunc⟩,
  ⟨1, 8, .other, some .nilFunc⟩,
  ⟨1, 8, .other, some .nilFunc⟩,
  ⟨1, 8, .int .i64, some (.int Go.IntKind.i64 0)⟩,
  ⟨1, 0, .other, some (.tuple #[(.slice none 0 0), (.int Go.IntKind.i64 0)])⟩,
  ⟨1, 8, .other, some .nilFunc⟩,
  ⟨1, 8, .other, some .nilFunc⟩,
  ⟨1, 8, .other, some .nilFunc⟩,
  ⟨1, 8, .other, some .nilFunc⟩,
  ⟨2, 32, .struct [(0, 22), (1, 3)], some (.agg #[(.slice none 0 0), (.int Go.IntKind.i64 0)])⟩,
  ⟨2, 32, .struct [(0, 22), (1, 3)], some (.agg #[(.slice none 0 0), (.int Go.IntKind.i64 0)])⟩,
  ⟨3, 24, .struct [(0, 3), (1, 3), (2, 3)], some (.agg #[(.int Go.IntKind.i64 0), (.int Go.IntKind.i64 0), (.int Go.IntKind.i64 0)])⟩,
  ⟨3, 24, .struct [(0, 3), (1, 3), (2, 3)], some (.agg #[(.int Go.IntKind.i64 0), (.int Go.IntKind.i64 0), (.int Go.IntKind.i64 0)])⟩,
  ⟨4, 32, .struct [(0, 4), (1, 47)], some (.agg #[(.bool false), (.int Go.IntKind.i64 0), (.int Go.IntKind.i64 0), (.int Go.IntKind.i64 0)])⟩,
  ⟨4, 32, .struct [(0, 4), (1, 47)], some (.agg #[(.bool false), (.int Go.IntKind.i64 0), (.int Go.IntKind.i64 0), (.int Go.IntKind.i64 0)])⟩,
  ⟨1, 8, .other, some .nilFunc⟩,
  ⟨1, 24, .slice 67, some (.slice none 0 0)⟩,
  ⟨2, 16, .struct [(0, 3), (1, 3)], some (.agg #[(.int Go.IntKind.i64 0), (.int Go.IntKind.i64 0)])⟩,
  ⟨2, 16, .struct [(0, 3), (1, 3)], some (.agg #[(.int Go.IntKind.i64 0), (.int Go.IntKind.i64 0)])⟩,
  ⟨1, 24, .slice 56, some (.slice none 0 0)⟩,
  ⟨10, 104, .struct [(0, 3), (1, 53), (3, 47), (6, 9), (7, 3), (8, 3), (9, 54)], some (.agg #[(.int Go.IntKind.i64 0), (.int Go.IntKind.i64 0), (.int Go.IntKind.i64 0), (.int Go.IntKind.i64 0), (.int Go.IntKind.i64 0), (.int Go.IntKind.i64 0), (.string { data := #[] }), (.int Go.IntKind.i64 0), (.int Go.IntKind.i64 0), (.slice none 0 0)])⟩,
  ⟨10, 104, .struct [(0, 3), (1, 53), (3, 47), (6, 9), (7, 3), (8, 3), (9, 54)], some (.agg #[(.int Go.IntKind.i64 0), (.int Go.IntKind.i64 0), (.int Go.IntKind.i64 0), (.int Go.IntKind.i64 0), (.int Go.IntKind.i64 0), (.int Go.IntKind.i64 0), (.string { data := #[] }), (.int Go.IntKind.i64 0), (.int Go.IntKind.i64 0), (.slice none 0 0)])⟩,
  ⟨21, 216, .struct [(0, 3), (1, 9), (2, 49), (6, 3), (7, 51), (8, 56), (18, 3), (19, 53)], some (.agg #[(.int Go.IntKind.i64 0), (.string { data := #[] }), (.bool false), (.int Go.IntKind.i64 0), (.int Go.IntKind.i64 0), (.int Go.IntKind.i64 0), (.int Go.IntKind.i64 0), (.slice none 0 0), (.int Go.IntKind.i64 0), (.int Go.IntKind.i64 0), (.int Go.IntKind.i64 0), (.int Go.IntKind.i64 0), (.int Go.IntKind.i64 0), (.int Go.IntKind.i64 0), (.string { data := #[] }), (.int Go.IntKind.i64 0), (.int Go.IntKind.i64 0), (.slice none 0 0), (.int Go.IntKind.i64 0), (.int Go.IntKind.i64 0), (.int Go.IntKind.i64 0)])⟩,
  ⟨21, 216, .struct [(0, 3), (1, 9), (2, 49), (6, 3), (7, 51), (8, 56), (18, 3), (19, 53)], some (.agg #[(.int Go.IntKind.i64 0), (.string { data := #[] }), (.bool false), (.int Go.IntKind.i64 0), (.int Go.IntKind.i64 0), (.int Go.IntKind.i64 0), (.int Go.IntKind.i64 0), (.slice none 0 0), (.int Go.IntKind.i64 0), (.int Go.IntKind.i64 0), (.int Go.IntKind.i64 0), (.int Go.IntKind.i64 0), (.int Go.IntKind.i64 0), (.int Go.IntKind.i64 0), (.string { data := #[] }), (.int Go.IntKind.i64 0), (.int Go.IntKind.i64 0), (.slice none 0 0), (.int Go.IntKind.i64 0), (.int Go.IntKind.i64 0), (.int Go.IntKind.i64 0)])⟩,
  ⟨1, 8, .other, some .nilFunc⟩,
  ⟨1, 24, .slice 49, some (.slice none 0 0)⟩,
  ⟨1, 8, .other, some .nilFunc⟩,
  ⟨1, 24, .slice 53, some (.slice none 0 0)⟩,
  ⟨1, 8, .other, some .nilFunc⟩,
  ⟨1, 8, .other, some .nilFunc⟩,
  ⟨1, 8, .other, some .nilFunc⟩,
  ⟨3, 24, .struct [(0, 3), (1, 53)], some (.agg #[(.int Go.IntKind.i64 0), (.int Go.IntKind.i64 0), (.int Go.IntKind.i64 0)])⟩,
  ⟨3, 24, .struct [(0, 3), (1, 53)], some (.agg #[(.int Go.IntKind.i64 0), (.int Go.IntKind.i64 0), (.int Go.IntKind.i64 0)])⟩,
  ⟨1, 8, .other, some .nilFunc⟩,
  ⟨1, 8, .other, some .nilFunc⟩,
  ⟨1, 8, .other, some (.map none)⟩,
  ⟨2, 32, .struct [(0, 22), (1, 70)], some (.agg #[(.slice none 0 0), (.map none)])⟩,
  ⟨2, 32, .struct [(0, 22), (1, 70)], some (.agg #[(.slice none 0 0), (.map none)])⟩,
  ⟨1, 0, .other, some (.tuple #[(.agg #[(.slice none 0 0), (.map none)]), (.int Go.IntKind.i64 0)])⟩,
  ⟨1, 8, .other, some .nilFunc⟩,
  ⟨1, 8, .other, some .nilFunc⟩,
  ⟨1, 8, .other, some .nilFunc⟩,
  ⟨1, 8, .other, some .nilFunc⟩,
  ⟨1, 8, .other, some .nilFunc⟩,
  ⟨1, 8, .other, some .nilFunc⟩,
  ⟨1, 8, .other, some .nilFunc⟩,
  ⟨1, 8, .other, some .nilFunc⟩,
  ⟨1, 8, .other, some .nilFunc⟩,
  ⟨1, 8, .other, some .nilFunc⟩,
  ⟨1, 0, .other, some (.tuple #[(.slice none 0 0), (.bool false)])⟩,
  ⟨1, 8, .other, some .nilFunc⟩,
  ⟨1, 8, .other, some .nilFunc⟩,
  ⟨1, 24, .slice 22, some (.slice none 0 0)⟩,
  ⟨1, 8, .other, some .nilFunc⟩,
  ⟨1, 8, .other, some .nilFunc⟩,
  ⟨1, 8, .other, some (.map none)⟩,
  ⟨1, 8, .other, some .nilFunc⟩,
  ⟨1, 8, .other, some .nilFunc⟩,
  ⟨1, 8, .other, some .nilFunc⟩,
  ⟨1, 8, .other, some .nilFunc⟩,
  ⟨1, 8, .other, some .nilFunc⟩,
  ⟨1, 8, .other, some (.map none)⟩,
  ⟨1, 8, .other, some .nilFunc⟩,
  ⟨1, 0, .other, some (.tuple #[(.int Go.IntKind.i64 0), (.bool false)])⟩,
  ⟨1, 8, .other, some .nilFunc⟩,
  ⟨1, 8, .other, some .nilFunc⟩,
  ⟨1, 8, .other, some .nilFunc⟩,
  ⟨1, 8, .other, some .nilFunc⟩,
  ⟨1, 8, .other, some .nilFunc⟩,
  ⟨1, 8, .other, some .nilFunc⟩,
  ⟨1, 8, .other, some .nilFunc⟩,
  ⟨1, 8, .other, some .nilFunc⟩,
  ⟨1, 8, .other, some .nilFunc⟩,
  ⟨1, 8, .other, some .nilFunc⟩,
  ⟨1, 8, .other, some .nilFunc⟩,
  ⟨1, 8, .other, some .nilFunc⟩,
  ⟨1, 8, .int .u64, some (.int Go.IntKind.u64 0)⟩,
  ⟨1, 8, .other, some .nilFunc⟩,
  ⟨1, 8, .other, some .nilFunc⟩,
  ⟨1, 8, .other, some .nilFunc⟩,
  ⟨1, 8, .other, some .nilFunc⟩,
  ⟨1, 8, .other, some .nilFunc⟩,
  ⟨1, 8, .other, some .nilFunc⟩,
  ⟨1, 8, .other, some .nilFunc⟩,
  ⟨1, 8, .other, some .nilFunc⟩,
  ⟨1, 8, .other, some .nilFunc⟩,
  ⟨1, 8, .other, some .nilFunc⟩,
  ⟨1, 8, .int .i64, some (.int Go.IntKind.i64 0)⟩,
  ⟨1, 0, .other, some (.tuple #[(.int Go.IntKind.i64 0), (.int Go.IntKind.i64 0)])⟩,
  ⟨1, 8, .other, some .nilFunc⟩,
  ⟨1, 8, .other, some .nilFunc⟩,
  ⟨1, 8, .other, some .nilFunc⟩,
  ⟨1, 8, .other, some .nilFunc⟩,
  ⟨1, 8, .other, some .nilFunc⟩,
  ⟨1, 8, .other, some .nilFunc⟩,
  ⟨1, 4, .int .u32, some (.int Go.IntKind.u32 0)⟩,
  ⟨1, 8, .other, some .nilFunc⟩,
  ⟨1, 8, .int .u64, some (.int Go.IntKind.u64 0)⟩,
  ⟨1, 8, .other, some .nilFunc⟩,
  ⟨1, 8, .other, some .nilFunc⟩,
  ⟨1, 8, .int .u64, some (.int Go.IntKind.u64 0)⟩,
  ⟨1, 8, .other, some .nilFunc⟩,
  ⟨1, 8, .other, some .nilFunc⟩,
  ⟨1, 8, .other, some .nilFunc⟩,
  ⟨1, 8, .pointer 3, some (.pointer none)⟩,
  ⟨1, 8, .other, some .nilFunc⟩,
  ⟨1, 8, .other, some .nilFunc⟩,
  ⟨1, 8, .pointer 135, some (.pointer none)⟩,
  ⟨1, 0, .other, some (.tuple #[(.int Go.IntKind.i64 0), (.int Go.IntKind.i64 0)])⟩,
  ⟨1, 8, .other, some .nilFunc⟩,
  ⟨1, 8, .other, some .nilFunc⟩,
  ⟨1, 8, .other, some .nilFunc⟩,
  ⟨1, 8, .other, some .nilFunc⟩,
  ⟨4, 40, .struct [(0, 17), (1, 17), (2, 17), (3, 9)], some (.agg #[(.pointer none), (.pointer none), (.pointer none), (.string { data := #[] })])⟩,
  ⟨4, 40, .struct [(0, 17), (1, 17), (2, 17), (3, 9)], some (.agg #[(.pointer none), (.pointer none), (.pointer none), (.string { data := #[] })])⟩,
  ⟨0, 0, .array 0 16, some (.agg #[])⟩,
  ⟨0, 0, .struct [(0, 150)], some (.agg #[])⟩,
  ⟨0, 0, .struct [(0, 150)], some (.agg #[])⟩,
  ⟨1, 1, .int .u8, some (.int Go.IntKind.u8 0)⟩,
  ⟨1, 1, .int .u8, some (.int Go.IntKind.u8 0)⟩,
  ⟨1, 8, .other, some .nilFunc⟩,
  ⟨1, 8, .pointer 5, some (.pointer none)⟩,
  ⟨1, 4, .int .i32, some (.int Go.IntKind.i32 0)⟩,
  ⟨1, 4, .int .i32, some (.int Go.IntKind.i32 0)⟩,
  ⟨11, 48, .struct [(0, 12), (1, 12), (2, 130), (3, 153), (4, 5), (5, 5), (6, 154), (7, 155), (8, 156), (9, 157), (10, 158)], some (.agg #[(.int Go.IntKind.u64 0), (.int Go.IntKind.u64 0), (.int Go.IntKind.u32 0), (.int Go.IntKind.u8 0), (.int Go.IntKind.u8 0), (.int Go.IntKind.u8 0), (.int Go.IntKind.u8 0), .nilFunc, (.pointer none), (.int Go.IntKind.i32 0), (.int Go.IntKind.i32 0)])⟩,
  ⟨11, 48, .struct [(0, 12), (1, 12), (2, 130), (3, 153), (4, 5), (5, 5), (6, 154), (7, 155), (8, 156), (9, 157), (10, 158)], some (.agg #[(.int Go.IntKind.u64 0), (.int Go.IntKind.u64 0), (.int Go.IntKind.u32 0), (.int Go.IntKind.u8 0), (.int Go.IntKind.u8 0), (.int Go.IntKind.u8 0), (.int Go.IntKind.u8 0), .nilFunc, (.pointer none), (.int Go.IntKind.i32 0), (.int Go.IntKind.i32 0)])⟩,
  ⟨1, 8, .other, some (.pointer none)⟩]
theorem tab_ok : TabOk Tryz.prog tab := tabOk_of (n := tab.length) (by kernel_rfl)
noncomputable def G : Pg2 := ⟨⟨Tryz.prog, tab, tab_ok, by kernel_rfl⟩, [47, 49, 53], by kernel_rfl⟩
theorem w64 {n : Int} (h1 : -9223372036854775808 ≤ n) (h2 : n ≤ 9223372036854775807) : IntKind.i64.wrap n = n := IntWalk.i64_in n ⟨h1, h2⟩
theorem wu64 {n : Int} (h1 : 0 ≤ n) (h2 : n < 18446744073709551616) : IntKind.u64.wrap n = n := by
  simp only [IntKind.wrap, IntKind.bits, IntKind.signed]; simp; omega
theorem wu64n {n : Int} (h1 : n < 0) (h2 : -18446744073709551616 ≤ n) : IntKind.u64.wrap n = n + 18446744073709551616 := by
  simp only [IntKind.wrap, IntKind.bits, IntKind.signed]; simp; omega
def okR (n d : Int) : Bool := decide (1 ≤ d ∧ d ≤ 1000000 ∧ -1000000000000 ≤ n ∧ n ≤ 1000000000000 ∧ Int.gcd n d = 1)
theorem okR_bd {n d : Int} (h : okR n d = true) : 1 ≤ d ∧ d ≤ 1000000 ∧ -1000000000000 ≤ n ∧ n ≤ 1000000000000 := by
  simp only [okR, decide_eq_true_eq] at h; omega
abbrev vr (n d : Int) : PV := .agg 2 (nthP [vi n, vi d])
theorem gcd_step (a b : Nat) : Nat.gcd b (a % b) = Nat.gcd a b := by
  rw [Nat.gcd_comm a b, Nat.gcd_rec b a, Nat.gcd_comm]
def modeB (m : Int) : Bool := decide (0 ≤ m ∧ m ≤ 6)
end Go.Proofs.YtcefhgomkehokaaGreat
namespace Go.Proofs.YtcefhgomkehokaaGreat
open Go.RowKit
section
variable {G : Pg} {N : Nat} {Γ : Fr} {st : PSt} {K : Exit → PSt → Prop} {c : Code}
structure PRounds (G : Pg) (N : Nat) (Γ : Fr) (c : Code) (K : Exit → PSt → Prop) (n : Nat) (st : PSt) : Prop where
  go : ∀ ρ I a w, Rel N Γ st ρ I a w → Code.rounds G.P c (Qf N Γ K) n a w
def KroundF (G : Pg) (N : Nat) (Γ : Fr) (c : Code) (K : Exit → PSt → Prop) (n : Nat) : Exit → PSt → Prop
  | .normal, st => ∃ st', Can N Γ st st' ∧ PRounds G N Γ c K n st'
  | e, st => K e st
structure Kround (G : Pg) (N : Nat) (Γ : Fr) (c : Code) (K : Exit → PSt → Prop) (n : Nat) (e : Exit) (st : PSt) : Prop where
  go : KroundF G N Γ c K n e st
theorem kround_ret {n : Nat} (h : K .ret st) : Kround G N Γ c K n .ret st := ⟨h⟩
theorem kround_exit {n id : Nat} (h : K (.exit id) st) : Kround G N Γ c K n (.exit id) st := ⟨h⟩
theorem pround {n : Nat} (h : PWp G N Γ c st (Kround G N Γ c K n)) : PRounds G N Γ c K (n + 1) st := .mk fun ρ I a w hr => by
  refine wp_mono (h.go ρ I a w hr) fun e a w ⟨h1, st, ρ, I, h2, h3⟩ => ?_
  cases e with
  | normal =>
    obtain ⟨st', hc, hk⟩ := h2.go
    obtain ⟨ρ', I', hr'⟩ := hc ρ I a w h3
    exact hk.go ρ' I' a w hr'
  | _ => exact ⟨h1, st, ρ, I, h2.go, h3⟩
theorem kround_next {n : Nat} (h : PWp G N Γ c st (Kround G N Γ c K n)) : Kround G N Γ c K (n + 1) .normal st := ⟨st, Can.refl, pround h⟩
theorem ploopN (n : Nat) (h : PWp G N Γ c st (Kround G N Γ c K n)) : PWp G N Γ (.loop c) st K := .mk fun ρ I a w hr => wp_loop_rounds (n + 1) ((pround h).go ρ I a w hr)
end
section
variable {G : Pg2} {N : Nat} {Γ : Fr} {st : PSt} {ops : Array Oper} {o : Oper} {d : Nat}
end
def tI (g : Nat → Int) : Nat → Nat → PV := fun i _ => vi (g i)
def tapeRow (n : Nat) (g : Nat → Int) (at_ : Int) : Row := ⟨.own, true, 1, 2, fun _ => nthP [.vsl n 1 (tI g), vi at_]⟩
theorem tape_cl (n : Nat) (g : Nat → Int) (at_ : Int) : rowCl (tapeRow n g at_) := fun i _ j _ => clL_nth _ j ⟨trivial, trivial, trivial⟩
theorem tmod_cases (a k : Int) (h1 : 1 ≤ k) : (a.tmod k < 0 → a.tmod k + k = a % k) ∧ (¬ a.tmod k < 0 → a.tmod k = a % k) ∧ -k < a.tmod k ∧ a.tmod k < k := by
  have h0 := Int.emod_nonneg a (show k ≠ 0 by omega)
  have h2 := Int.emod_lt_of_pos a (show 0 < k by omega)
  by_cases hs : 0 ≤ a
  · rw [Int.tmod_eq_emod_of_nonneg hs]; omega
  · have := Int.tmod_eq_emod (a := a) (b := k)
    rw [this]
    have hn : (k.natAbs : Int) = k := by omega
    split <;> omega
section
variable {G : Pg2} {N : Nat} {Γ : Fr} {st : PSt} {K' : PSt → Prop} {ops : Array Oper} {o : Oper} {d : Nat}
theorem pst_ptr {f : FuncId} {x x0 : Operand} {xs : List Operand} {args : Array Operand} {tys : Array TypeId} {c : Nat → PV} {l : Nat} {row : Row} {qs : List PV} {post : PV → Row → Prop} {m : Row → List Row} (L : List Nat) (hg : o.guard = none) (hd : o.dst = some d) (hN : Nat.blt d N = true) (ho : o.op = .call ⟨.value x, args, tys⟩) (hx : st.ev x = .clo f 0 c) (ha0 : args.toList = x0 :: xs) (hp : st.ev x0 = .ptr l 0 0) (hrow : rowAt st.mem l = some row) (hown : ownB row = true) (hm : ∀ row', frzK L st.mem 0 (fun m0 => setM m0 l row' some) = some (m row')) (hlL : (L.any (Nat.beq l)) = false)
    (hcl : rowCl row) (hLk : ∀ l', l' ∈ L → Γ.k0 ≤ l') (hc : PtrC G.P f row qs post) (ha : ArgsOk st.mem L (xs.map st.ev) qs)
    (h : ∀ r row', post r row' → K' (PSt.put ⟨st.tm, m row'⟩ d r)) : PStep G N Γ ops o st [l] false K' := .mk fun ρ I a w hrel Q => by
  have hw : Region.wanted o (yielded ops a.tmps) = true := by simp [Region.wanted, hg]
  rw [if_pos hw]
  rw [rowAt_get] at hrow
  have hlL' : l ∉ L := fun hl => by rw [(any_beq L l).2 hl] at hlL; cases hlL
  refine ptr_core (G := G.toPg) L hrel ho hx ha0 hp hrow (ownB_eq hown) hcl hlL' hc ha ?_
  intro v r row' w' hpost hk hv hrin
  have hkk := h r row' hpost
  have hmm : m row' = (frzL L 0 st.mem).set l row' := by have := hm row'; rw [frzK_eq, setM_eq] at this; simpa using this.symm
  simp only [hd]
  have hfr := hrel.freeze L hLk
  have hrel' := hfr.ptrCall (frzL_keep L st.mem 0 l row hrow (by simpa using hlL')) (ownB_eq hown) hk (I' := fun b => ASet ρ I st.mem L b ∨ (w.heap.size ≤ b ∧ b < w'.heap.size)) (fun b hb => .inl hb) (fun b hb => hb) hrin
  rw [← hmm] at hrel'
  have hio : row.s.isOwn := by rw [ownB_eq hown]; trivial
  have hsplit : ∀ k (r' : Row), (m row')[k]? = some r' → k < st.mem.length ∧ ((∃ r0, st.mem[k]? = some r0 ∧ True ∧ (r'.s = r0.s ∨ (r'.s = .imm ∧ r0.s = .own))) ∨ k = l) := fun k r' hk => by
    rw [hmm] at hk
    have hlt := lt_get hk
    refine ⟨by simpa [frzL_length] using hlt, ?_⟩
    by_cases he : k = l
    · exact .inr he
    · rw [List.getElem?_set_ne (Ne.symm he)] at hk
      obtain ⟨r0, e1, _, _, _, e5, _⟩ := frzL_get L st.mem 0 k r' hk
      exact .inl ⟨r0, e1, trivial, e5.imp id fun h => ⟨h.1, h.2.1⟩⟩
  refine ⟨_, ρ, _, hkk, hrel'.put (by rwa [Nat.blt_eq] at hN) hv.of0, hk.size, fun b hb hne => hk.block b hb (hne l row (by simp) hrow hio), fun _ _ => rfl, (fun h => by cases h), fun k r' hk hs => ?_, fun k r' hk hs => ?_⟩
  · obtain ⟨h1, ⟨r0, h2, _, h3⟩ | rfl⟩ := hsplit k r' hk
    · refine .inl ⟨h1, r0, h2, ?_⟩
      rcases h3 with h3 | ⟨_, h3⟩
      · rw [← h3]; exact hs
      · rw [h3]; trivial
    · exact .inl ⟨h1, row, hrow, RS.live_of_own hio⟩
  · obtain ⟨h1, ⟨r0, h2, _, h3⟩ | rfl⟩ := hsplit k r' hk
    · refine .inl ⟨h1, r0, h2, ?_⟩
      rcases h3 with h3 | ⟨_, h3⟩
      · rw [← h3]; exact hs
      · rw [h3]; trivial
    · exact .inl ⟨h1, row, hrow, hio⟩
end
structure AnyI (G : Pg2) (N : Nat) (Γ : Fr) (ops : Array Oper) (H : List Nat) (ni : Bool) (fuel : Nat) (listed : Array Bool) (st : PSt) (K : Exit → PSt → Prop) (i : Nat) : Prop where
  go : ∃ o ch nk, ops[i]? = some o ∧ chB H ch = true ∧ PStep G N Γ ops o st ch nk (fun st' => PAny G N Γ ops H (ni && nk) fuel (listed.setIfInBounds i true) st' K)
def AllI (p : Nat → Prop) : List Nat → Prop
  | [] => True
  | i :: r => p i ∧ AllI p r
theorem AllI.get {p : Nat → Prop} : ∀ {l : List Nat}, AllI p l → ∀ i, i ∈ l → p i
  | [], _, i, h => by cases h
  | j :: r, h, i, hi => by
    rcases List.mem_cons.1 hi with rfl | hi
    · exact h.1
    · exact AllI.get h.2 i hi
section
variable {G : Pg2} {N : Nat} {Γ : Fr} {st : PSt} {K : Exit → PSt → Prop} {ops : Array Oper} {o : Oper} {H : List Nat} {ni : Bool} {fuel : Nat} {listed : Array Bool}
end
theorem var_eq {τ : Nat → Option Nat} {k : Nat} {l l' : List PV} (h : PEqL (l.map (PV.ren τ)) l') : RowEq (Row.ren τ ⟨.own, true, 1, k, fun _ => nthP l⟩) ⟨.own, true, 1, k, fun _ => nthP l'⟩ := by
  refine ⟨rfl, rfl, Nat.le_refl _, fun i hi j hj => ?_⟩
  show PEq ((nthP l j).ren τ) (nthP l' j)
  rw [← nthP_ren]
  by_cases hl : j < (l.map (PV.ren τ)).length
  · exact h.get.2 j hl
  · have e := h.get.1
    rw [nthP_out _ _ (by omega), nthP_out _ _ (by omega)]; exact PEq.refl _
def selB : Nat → Nat → List Nat → Bool
  | 0, _, _ => true
  | k + 1, i, x :: r => Nat.beq x i && selB k (i + 1) r
  | _ + 1, _, [] => false
theorem selB_ok : ∀ (k i : Nat) (sel : List Nat), selB k i sel = true → k ≤ sel.length ∧ ∀ j, j < k → sel[j]? = some (i + j)
  | 0, _, _, _ => ⟨Nat.zero_le _, fun j hj => absurd hj (Nat.not_lt_zero j)⟩
  | k + 1, i, [], h => by simp [selB] at h
  | k + 1, i, x :: r, h => by
    simp only [selB, Bool.and_eq_true] at h
    obtain ⟨h1, h2⟩ := selB_ok k (i + 1) r h.2
    refine ⟨by simp; exact h1, fun j hj => ?_⟩
    cases j with
    | zero => rw [Nat.eq_of_beq_eq_true h.1]; rfl
    | succ j => simp only [List.getElem?_cons_succ]; rw [h2 j (by omega)]; congr 1; omega
theorem k0_sel {Γ : Fr} {k : Nat} {sel : List Nat} (h : Γ.k0 = k) (hb : selB k 0 sel = true) : Γ.k0 ≤ sel.length ∧ ∀ i, i < Γ.k0 → sel[i]? = some i := by
  subst h
  obtain ⟨h1, h2⟩ := selB_ok _ _ _ hb
  exact ⟨h1, fun i hi => by rw [h2 i hi, Nat.zero_add]⟩
end Go.Proofs.YtcefhgomkehokaaGreat
namespace Go.Proofs.YtcefhgomkehokaaGreat
theorem argPtr {mem : List Row} {L : List Nat} {l n sz i j : Nat} {r : Row} {f : Nat → Nat → PV} (hr : rowAt mem l = some r) (hs : r.s.live) (hL : l ∈ L) (hn : n ≤ r.n) (hsz : sz = r.sz) (hc : ∀ a, a < n → ∀ b, b < sz → ArgOk mem L (r.f a b) (f a b)) : ArgOk mem L (.ptr l i j) (.vptr n sz f i j) := by
  rintro ρ I w v hm ⟨hl, rfl⟩
  rw [rowAt_get] at hr
  obtain ⟨h1, cs, T, hc1, hc2⟩ := hm.row l r hr hs
  refine ⟨(ρ l).b, (ρ l).o, by rw [h1, hsz], .inr ⟨l, r, hL, hr, hs, rfl⟩, fun a ha b hb => ?_⟩
  obtain ⟨u, g1, g2, g3⟩ := hc2 a (by omega) b (by omega)
  exact ⟨u, by simp only [World.cell?, hc1, hsz]; exact g1, g2, hc a ha b hb ρ I w u hm g3⟩
theorem argLsl' {mem : List Row} {L : List Nat} {l i n : Nat} {r : Row} {f : Nat → Nat → PV} (hr : rowAt mem l = some r) (hs : r.s.live) (hL : l ∈ L) (hn : i + n ≤ r.n) (hc : ∀ a, a < n → ∀ b, b < r.sz → ArgOk mem L (r.f (i + a) b) (f a b)) : ArgOk mem L (.lsl l i n) (.vsl n r.sz f) := by
  rintro ρ I w v hm ⟨hl, h⟩
  rw [rowAt_get] at hr
  rcases h with ⟨rfl, ad, rfl⟩ | ⟨cap, h1, rfl, h2⟩
  · exact ⟨ad, 0, rfl, Nat.le_refl _, .inl rfl⟩
  · refine ⟨_, cap, rfl, h1, .inr ⟨(ρ l).b, (ρ l).o + i * (ρ l).sz, rfl, .inr ⟨l, r, hL, hr, hs, rfl⟩, fun a ha b hb => ?_⟩⟩
    obtain ⟨hsz, cs, T, hc1, hc2⟩ := hm.row l r hr hs
    obtain ⟨u, g1, g2, g3⟩ := hc2 (i + a) (by omega) b hb
    refine ⟨u, ?_, g2, hc a ha b hb ρ I w u hm g3⟩
    have : (ρ l).o + i * (ρ l).sz + a * r.sz + b = (ρ l).o + (i + a) * r.sz + b := by rw [hsz, Nat.add_mul]; omega
    simp only [World.cell?, hc1, this]
    exact g1
theorem argClo {mem : List Row} {L : List Nat} {f : FuncId} {n : Nat} {c c' : Nat → PV} (h : ∀ i, i < n → ArgOk mem L (c i) (c' i)) : ArgOk mem L (.clo f n c) (.clo f n c') := by
  rintro ρ I w v hm ⟨vs, h1, h2, h3⟩
  exact ⟨vs, h1, h2, fun i hi => h i hi ρ I w _ hm (h3 i hi)⟩
theorem argClo1 {mem : List Row} {L : List Nat} {f : FuncId} {c c' : Nat → PV} (h : ArgOk mem L (c 0) (c' 0)) : ArgOk mem L (.clo f 1 c) (.clo f 1 c') := argClo fun i hi => by
  obtain rfl : i = 0 := by omega
  exact h
def TmF (st : PSt) (L : List Nat) : List (Nat × PV) → Prop
  | [] => True
  | (t, q) :: r => (st.get t = q ∨ ArgOk st.mem L (st.get t) q) ∧ TmF st L r
section
variable {N : Nat} {Γ : Fr} {st : PSt}
theorem tmF_slot {L : List Nat} {ρ : Nat → Loc} {I : Nat → Prop} {a : Act} {w : World} (hm : MRel ρ I w st.mem) (hs : ∀ t, VRel st.mem.length ρ I w (st.get t) (a.tmps.getD t undef)) (hs' : ∀ t, VRel st.mem.length ρ (ASet ρ I st.mem L) w (st.get t) (a.tmps.getD t undef)) : ∀ (tm : List (Nat × PV)), TmF st L tm → ∀ t, VRel st.mem.length ρ (ASet ρ I st.mem L) w (look t tm) (a.tmps.getD t undef)
  | [], _, t => trivial
  | (s, q) :: r, h, t => by
    simp only [look]
    cases hb : Nat.beq t s
    · exact tmF_slot hm hs hs' r h.2 t
    · rw [Nat.eq_of_beq_eq_true hb]
      rcases h.1 with e | e
      · show VRel _ _ _ _ q _
        rw [← e]; exact hs' s
      · exact (e ρ I w _ hm (hs s)).of0
theorem can_frz (L : List Nat) {tm : List (Nat × PV)} {m : List Row} (hL : ∀ l, l ∈ L → Γ.k0 ≤ l) (hm0 : frzK L st.mem 0 some = some m) (ht : TmF st L tm) : Can N Γ st ⟨tm, m⟩ := fun ρ I a w h => by
  have hm : frzL L 0 st.mem = m := by rw [frzK_eq] at hm0; simpa using hm0
  subst hm
  have hf := h.freeze L hL
  refine ⟨ρ, _, hf.fr, hf.defers, hf.size, fun t => ?_⟩
  have hs' := hf.slot
  simp only [frzL_length] at hs' ⊢
  exact tmF_slot h.fr.m h.slot hs' tm ht t
end
section
variable {G : Pg2} {N : Nat} {Γ : Fr} {st : PSt} {K' : PSt → Prop} {K : Exit → PSt → Prop} {ops : Array Oper} {o : Oper} {rest : List Oper} {d : Nat}
theorem PEqL.arel {mem : List Row} {L : List Nat} : ∀ {ps qs : List PV}, PEqL ps qs → clBL qs = true → ArgsOk mem L ps qs
  | [], [], _, _ => trivial
  | p :: ps, q :: qs, h, hc => by
    simp only [clBL, Bool.and_eq_true] at hc
    exact ⟨fun ρ I w v hm hv => argCl (mem := mem) (clB_spec q hc.1) ρ I w v hm (h.1 _ _ _ _ _ hv), PEqL.arel h.2 hc.2⟩
  | [], _ :: _, h, _ => h.elim
  | _ :: _, [], h, _ => h.elim
end
section
variable {G : Pg2} {N : Nat} {Γ : Fr} {st : PSt} {K : Exit → PSt → Prop} {K' : PSt → Prop} {ops : Array Oper} {o : Oper} {rest : List Oper} {d : Nat}
theorem pst_callp {f : FuncId} {x : Operand} {args : Array Operand} {tys : Array TypeId} {c : Nat → PV} {qs : List PV} {X : PV} (hg : o.guard = none) (hd : o.dst = some d) (hN : Nat.blt d N = true) (ho : o.op = .call ⟨.value x, args, tys⟩) (hx : st.ev x = .clo f 0 c) (hc : PureC G.P f qs (fun r => r = X)) (hq : PEqL (args.toList.map st.ev) qs) (hcl : clBL qs = true) (hs : scB X = true)
    (h : K' (st.put d X)) : PStep G N Γ ops o st [] true K' :=
  pst_call [] hg hd hN ho hx hc (hq.arel hcl) (fun r hr => by subst hr; exact ⟨scB_spec _ hs, h⟩)
theorem peq_vsl {n n' sz : Nat} {f g : Nat → Nat → PV} (hn : n = n') (hf : ∀ i, i < n → ∀ j, j < sz → f i j = g i j) : PEq (.vsl n sz f) (.vsl n' sz g) := by
  subst hn
  rintro k ρ I w v ⟨a, cap, h1, h2, h3⟩
  refine ⟨a, cap, h1, h2, h3.imp id ?_⟩
  rintro ⟨b, o, e, hb, h4⟩
  refine ⟨b, o, e, hb, fun i hi j hj => ?_⟩
  obtain ⟨u, g1, g2, g3⟩ := h4 i hi j hj
  rw [hf i hi j hj] at g3
  exact ⟨u, g1, g2, g3⟩
end
def iRow (n : Nat) (g : Nat → Int) : Row := ⟨.own, false, n, 1, tI g⟩
theorem i_cl (n : Nat) (g : Nat → Int) : rowCl (iRow n g) := fun _ _ _ _ => trivial
theorem i_eq {τ : Nat → Option Nat} {n n' : Nat} {f : Nat → Nat → PV} {g : Nat → Int} (hn : n' ≤ n) (h : ∀ a, a < n' → f a 0 = vi (g a)) : RowEq (Row.ren τ ⟨.own, false, n, 1, f⟩) (iRow n' g) := by
  refine ⟨rfl, rfl, hn, fun i hi j hj => ?_⟩
  have hj0 : j = 0 := by simp [iRow] at hj; exact hj
  subst hj0
  show PEq ((f i 0).ren τ) (vi (g i))
  rw [h i hi]; exact PEq.refl _
def upd (g : Nat → Int) (i : Nat) (x : Int) (a : Nat) : Int := if a = i then x else g a
theorem upd_eq (g : Nat → Int) (i : Nat) (x : Int) (a b : Nat) (hb : b = 0) : updR (tI g) i [vi x] a b = tI (upd g i x) a b := by
  subst hb
  unfold updR tI upd
  by_cases e : a = i
  · subst e; simp [nthP]
  · have : Nat.beq a i = false := by cases hb : Nat.beq a i; rfl; exact absurd (Nat.eq_of_beq_eq_true hb) e
    rw [this, if_neg e]; rfl
open Go.RowKit
def slP : Nat → Nat → PV
  | 0, _ => .val (.slice none 0 0)
  | k + 1, l => .lsl l 0 (k + 1)
def sOf : Nat → RS
  | 0 => .virt
  | _ + 1 => .own
def tF {α : Type} (c : α → List PV) (g : Nat → α) : Nat → Nat → PV := fun i => nthP (c (g i))
def vRow {α : Type} (c : α → List PV) (sz n : Nat) (g : Nat → α) : Row := ⟨sOf n, false, n, sz, tF c g⟩
def oRow {α : Type} (c : α → List PV) (sz n : Nat) (g : Nat → α) : Row := ⟨.own, false, n, sz, tF c g⟩
def snocA {α : Type} (m : Nat) (g : Nat → α) (y : α) (a : Nat) : α := if a < m then g a else y
def updA {α : Type} (g : Nat → α) (i : Nat) (y : α) (a : Nat) : α := if a = i then y else g a
abbrev c1 (x : Int) : List PV := [vi x]
def SelV (mem : List Row) (sel0 : List Nat) : List Nat → List Row → Prop
  | [], [] => True
  | l :: s, r :: rs => (∃ r0, rowAt mem l = some r0 ∧ RowEq (r0.ren (inv sel0 0)) r) ∧ SelV mem sel0 s rs
  | _, _ => False
theorem SelV.nil {mem : List Row} {s0 : List Nat} : SelV mem s0 [] [] := trivial
theorem SelV.cons {mem : List Row} {s0 : List Nat} {l : Nat} {s : List Nat} {r0 r : Row} {rs : List Row} (h1 : rowAt mem l = some r0) (h3 : RowEq (r0.ren (inv s0 0)) r) (h : SelV mem s0 s rs) : SelV mem s0 (l :: s) (r :: rs) := ⟨⟨r0, h1, h3⟩, h⟩
theorem SelV.get {mem : List Row} {sel0 : List Nat} : ∀ (s : List Nat) (rs : List Row), SelV mem sel0 s rs → s.length = rs.length ∧ ∀ (i : Nat) (r : Row), rs[i]? = some r → ∃ (l : Nat) (r0 : Row), s[i]? = some l ∧ mem[l]? = some r0 ∧ RowEq (r0.ren (inv sel0 0)) r
  | [], [], _ => ⟨rfl, fun i r h => by simp at h⟩
  | l :: s, r :: rs, h => by
    obtain ⟨h1, h2⟩ := SelV.get s rs h.2
    refine ⟨by simp [h1], fun i r' hi => ?_⟩
    cases i with
    | zero =>
      simp only [List.getElem?_cons_zero, Option.some.injEq] at hi
      subst hi
      obtain ⟨r0, e1, e3⟩ := h.1
      rw [rowAt_get] at e1
      exact ⟨l, r0, by simp, e1, e3⟩
    | succ i =>
      obtain ⟨l', r0, e⟩ := h2 i r' (by simpa using hi)
      exact ⟨l', r0, by simpa using e.1, e.2⟩
  | [], _ :: _, h => h.elim
  | _ :: _, [], h => h.elim
section
variable {N : Nat} {Γ : Fr} {st : PSt} {ρ : Nat → Loc} {I : Nat → Prop} {a : Act} {w : World}
theorem MRel.selv (hm : MRel ρ I w st.mem) {sel : List Nat} {rows : List Row} (hs : SelV st.mem sel sel rows) (hd : sel.Nodup) : MRel (sub sel ρ) I w rows := by
  obtain ⟨hlen, hget⟩ := SelV.get sel rows hs
  have ne : ∀ (i j l l' : Nat), i ≠ j → sel[i]? = some l → sel[j]? = some l' → l ≠ l' := fun i j l l' hne h1 h2 e => by
    subst e
    have b1 := getLt h1
    have b2 := getLt h2
    exact hne ((List.getElem?_inj b1 hd).1 (h1.trans h2.symm))
  refine ⟨fun i r hi hl => ?_, fun i j r r' hne hi hj h1 h2 => ?_, fun i r hi ho => ?_, fun i r hi ho => ?_, hm.lt, fun i r hi hmp => ?_, fun i j r r' hne hi hj h1 h2 => ?_⟩
  · obtain ⟨l, r0, e1, e2, q1, q2, q3, q4⟩ := hget i r hi
    have q1 : r.s = r0.s := q1
    obtain ⟨h1, cs, T, h2, h3⟩ := hm.row l r0 e2 (by rw [← q1]; exact hl)
    rw [sub_get e1]
    refine ⟨h1.trans q2.symm, cs, T, h2, fun x hx y hy => ?_⟩
    have hy0 : y < r0.sz := by rw [q2] at hy; exact hy
    obtain ⟨u, g1, g2, g3⟩ := h3 x (Nat.lt_of_lt_of_le hx q3) y hy0
    refine ⟨u, by rw [q2]; exact g1, g2, q4 x hx y hy _ _ _ _ _ (VRel.ren (inv_ok hlen) _ _ g3)⟩
  · obtain ⟨l, r0, e1, e2, q1, _⟩ := hget i r hi
    obtain ⟨l', r0', e1', e2', q1', _⟩ := hget j r' hj
    have q1 : r.s = r0.s := q1
    have q1' : r'.s = r0'.s := q1'
    rw [sub_get e1, sub_get e1']
    exact hm.apart l l' r0 r0' (ne i j l l' hne e1 e1') e2 e2' (by rw [← q1]; exact h1) (by rw [← q1']; exact h2)
  · obtain ⟨l, r0, e1, e2, q1, _⟩ := hget i r hi
    rw [sub_get e1]
    exact hm.mine l r0 e2 (by rw [q1] at ho; exact ho)
  · obtain ⟨l, r0, e1, e2, q1, _⟩ := hget i r hi
    rw [sub_get e1]
    exact hm.imm l r0 e2 (by rw [q1] at ho; exact ho)
  · obtain ⟨l, r0, e1, e2, q1, q2, q3, q4⟩ := hget i r hi
    have q1 : r.s = r0.s := q1
    obtain ⟨g1, g2⟩ := hm.side l r0 e2 (by rw [← q1]; exact hmp)
    rw [sub_get e1]
    exact ⟨g1, g2.up q3 q2 (.refl _) fun x hx y hy v hv => q4 x hx y hy _ _ _ _ _ (VRel.ren (inv_ok hlen) _ _ hv)⟩
  · obtain ⟨l, r0, e1, e2, q1, _⟩ := hget i r hi
    obtain ⟨l', r0', e1', e2', q1', _⟩ := hget j r' hj
    have q1 : r.s = r0.s := q1
    have q1' : r'.s = r0'.s := q1'
    rw [sub_get e1, sub_get e1']
    exact hm.sap l l' r0 r0' (ne i j l l' hne e1 e1') e2 e2' (by rw [← q1]; exact h1) (by rw [← q1']; exact h2)
theorem can_rowsv (sel : List Nat) {tm : List (Nat × PV)} {rows : List Row} (hk : Γ.k0 ≤ sel.length ∧ ∀ i, i < Γ.k0 → sel[i]? = some i) (hd : nodupB sel = true) (hs : SelV st.mem sel sel rows) (ht : TmOk st sel tm) : Can N Γ st ⟨tm, rows⟩ := fun ρ I a w h => by
  have hnd := nodupB_ok sel hd
  obtain ⟨hlen, hget⟩ := SelV.get sel rows hs
  have slot : ∀ (tm : List (Nat × PV)), TmOk st sel tm → ∀ t, VRel rows.length (sub sel ρ) I w (look t tm) (a.tmps.getD t undef) := by
    intro tm
    induction tm with
    | nil => intro _ t; trivial
    | cons x tm ih =>
      obtain ⟨s, p⟩ := x
      intro hx t
      simp only [look]
      cases hb : Nat.beq t s
      · exact ih hx.2 t
      · obtain rfl : t = s := Nat.eq_of_beq_eq_true hb
        exact hx.1 _ _ _ _ _ (VRel.ren (inv_ok hlen) _ _ (h.slot t))
  refine ⟨sub sel ρ, I, ⟨h.fr.m.selv hs hnd, h.fr.os, h.fr.tape, h.fr.output, h.fr.size, h.fr.block, h.fr.shape, h.fr.old, h.fr.new, fun i r hi ho hlt => ?_, fun i r hi ho hki => ?_, by simp only; omega, fun l hl => ?_, fun i r hi ho hki => ?_, h.fr.gl⟩, h.defers, h.size, slot tm ht⟩
  · obtain ⟨l, r0, e1, e2, e4, _⟩ := hget i r hi
    rw [sub_get e1] at hlt ⊢
    exact h.fr.own l r0 e2 (by rw [e4] at ho; exact ho) hlt
  · obtain ⟨l, r0, e1, e2, e4, _⟩ := hget i r hi
    rw [sub_get e1]
    refine h.fr.fresh l r0 e2 (by rw [e4] at ho; exact ho) ?_
    by_cases hlt : l < Γ.k0
    · have := (List.getElem?_inj (getLt e1) hnd).1 (e1.trans (hk.2 l hlt).symm)
      omega
    · omega
  · rw [sub_get (hk.2 l hl)]; exact h.fr.ρ0 l hl
  · obtain ⟨l, r0, e1, e2, e4, _⟩ := hget i r hi
    rw [sub_get e1]
    have e4 : r.s = r0.s := e4
    refine h.fr.sfresh l r0 e2 (by rw [e4] at ho; exact ho) ?_
    by_cases hlt : l < Γ.k0
    · have := (List.getElem?_inj (getLt e1) hnd).1 (e1.trans (hk.2 l hlt).symm)
      omega
    · omega
theorem can_virt (rv : Row) (hv : rv.s = .virt) : Can N Γ st ⟨st.tm, st.mem ++ [rv]⟩ := fun ρ I a w h => by
  have split : ∀ (l : Nat) (r : Row), (st.mem ++ [rv])[l]? = some r → r.s ≠ .virt → st.mem[l]? = some r := fun l r hl hne => by
    by_cases hlt : l < st.mem.length
    · rw [List.getElem?_append_left hlt] at hl; exact hl
    · exfalso
      have h1 := lt_get hl
      simp at h1
      have : l = st.mem.length := by omega
      subst this
      simp at hl
      rw [← hl] at hne
      exact hne hv
  have lv : ∀ {r : Row}, r.s.live → r.s ≠ .virt := fun hr he => by rw [he] at hr; exact hr
  have ow : ∀ {r : Row}, r.s.isOwn → r.s ≠ .virt := fun hr he => by rw [he] at hr; exact hr
  have up : ∀ {p : PV} {v : Value}, VRel st.mem.length ρ I w p v → VRel (st.mem ++ [rv]).length ρ I w p v := fun hp => hp.up (by simp) (fun _ _ => rfl) (fun _ h => h) (Tr.refl _ _)
  refine ⟨ρ, I, ⟨⟨fun l r hl hs => ?_, fun l l' r r' hne hl hl' hs hs' => ?_, fun l r hl ho => ?_, fun l r hl hi => ?_, h.fr.m.lt, fun l r hl hm => ?_, fun l l' r r' hne hl hl' hs hs' => ?_⟩, h.fr.os, h.fr.tape, h.fr.output, h.fr.size, h.fr.block, h.fr.shape, h.fr.old, h.fr.new, fun l r hl ho => ?_, fun l r hl ho => ?_, ?_, h.fr.ρ0, fun l r hl hm => ?_, h.fr.gl⟩, h.defers, h.size, fun t => up (h.slot t)⟩
  · obtain ⟨h1, cs, T, h2, h3⟩ := h.fr.m.row l r (split l r hl (lv hs)) hs
    exact ⟨h1, cs, T, h2, fun i hi j hj => by obtain ⟨u, g1, g2, g3⟩ := h3 i hi j hj; exact ⟨u, g1, g2, up g3⟩⟩
  · exact h.fr.m.apart l l' r r' hne (split l r hl (lv hs)) (split l' r' hl' (lv hs')) hs hs'
  · exact h.fr.m.mine l r (split l r hl (ow ho)) ho
  · exact h.fr.m.imm l r (split l r hl (by rw [hi]; simp)) hi
  · obtain ⟨g1, g2⟩ := h.fr.m.side l r (split l r hl (by rw [hm]; simp)) hm
    exact ⟨g1, g2.up (Nat.le_refl _) rfl (.refl _) fun i hi j hj v hv => up hv⟩
  · exact h.fr.m.sap l l' r r' hne (split l r hl (by rw [hs]; simp)) (split l' r' hl' (by rw [hs']; simp)) hs hs'
  · exact h.fr.own l r (split l r hl (ow ho)) ho
  · exact h.fr.fresh l r (split l r hl (ow ho)) ho
  · have := h.fr.k0; simp; omega
  · exact h.fr.sfresh l r (split l r hl (by rw [hm]; simp)) hm
end
def CellsCl {α : Type} (c : α → List PV) : Prop := ∀ x, ClL (c x)
theorem tF_cl {α : Type} {c : α → List PV} (hc : CellsCl c) (g : Nat → α) (i j : Nat) : Cl (tF c g i j) := clL_nth _ j (hc (g i))
theorem v_cl {α : Type} {c : α → List PV} (hc : CellsCl c) (sz n : Nat) (g : Nat → α) : rowCl (vRow c sz n g) := fun i _ j _ => tF_cl hc g i j
theorem o_cl {α : Type} {c : α → List PV} (hc : CellsCl c) (sz n : Nat) (g : Nat → α) : rowCl (oRow c sz n g) := fun i _ j _ => tF_cl hc g i j
theorem c1_cl : CellsCl c1 := fun _ => ⟨trivial, trivial⟩
theorem o_eq {α : Type} {c : α → List PV} (hc : CellsCl c) {τ : Nat → Option Nat} {sz n n' : Nat} {f : Nat → Nat → PV} {g : Nat → α} (hn : n' ≤ n) (h : ∀ a, a < n' → ∀ b, b < sz → f a b = nthP (c (g a)) b) : RowEq (Row.ren τ ⟨.own, false, n, sz, f⟩) (oRow c sz n' g) :=
  ⟨rfl, rfl, hn, fun i hi j hj => by
    show PEq ((f i j).ren τ) (nthP (c (g i)) j)
    rw [h i hi j hj]; exact PEq.cl _ (clL_nth _ j (hc (g i)))⟩
theorem app_o {α : Type} {c : α → List PV} (hc : CellsCl c) {τ : Nat → Option Nat} {sz m M : Nat} {g : Nat → α} {y : α} {L : List PV} (hL : L = c y) (hM : M = m + 1) : RowEq (Row.ren τ ⟨.own, false, M, sz, appF m (fun x => tF c g (0 + x)) (fun x b => nthP L ((0 + x) * sz + b))⟩) (oRow c sz (m + 1) (snocA m g y)) := by
  subst hL hM
  refine o_eq hc (Nat.le_refl _) fun a ha b hb => ?_
  unfold snocA
  by_cases e : a < m
  · rw [appF_lt _ _ e, if_pos e, Nat.zero_add]; rfl
  · obtain rfl : a = m := by omega
    rw [appF_ge _ _ (Nat.le_refl _), if_neg (by omega), Nat.sub_self, Nat.zero_add, Nat.zero_mul, Nat.zero_add]
theorem app_v {α : Type} {c : α → List PV} (hc : CellsCl c) {τ : Nat → Option Nat} {sz m M : Nat} {g : Nat → α} {y : α} {L : List PV} (hL : L = c y) (hM : M = m + 1) : RowEq (Row.ren τ ⟨.own, false, M, sz, appF m (fun x => tF c g (0 + x)) (fun x b => nthP L ((0 + x) * sz + b))⟩) (vRow c sz (m + 1) (snocA m g y)) := app_o hc hL hM
theorem app_0 {α : Type} {c : α → List PV} (hc : CellsCl c) {τ : Nat → Option Nat} {sz : Nat} {g : Nat → α} {y : α} {L : List PV} (hL : L = c y) : RowEq (Row.ren τ ⟨.own, false, 1, sz, fun x b => nthP L ((0 + x) * sz + b)⟩) (vRow c sz (0 + 1) (snocA 0 g y)) := by
  subst hL
  refine o_eq hc (Nat.le_refl _) fun a ha b hb => ?_
  obtain rfl : a = 0 := by omega
  show nthP (c y) ((0 + 0) * sz + b) = nthP (c (snocA 0 g y 0)) b
  simp [snocA]
theorem app_g {α : Type} {c : α → List PV} (hc : CellsCl c) {τ : Nat → Option Nat} {sz m M : Nat} {g : Nat → α} {L : List PV} (hL : L = c (g m)) (hM : M = m + 1) : RowEq (Row.ren τ ⟨.own, false, M, sz, appF m (fun x => tF c g (0 + x)) (fun x b => nthP L ((0 + x) * sz + b))⟩) (vRow c sz (m + 1) g) := by
  subst hL hM
  refine o_eq hc (Nat.le_refl _) fun a ha b hb => ?_
  by_cases e : a < m
  · rw [appF_lt _ _ e, Nat.zero_add]; rfl
  · obtain rfl : a = m := by omega
    rw [appF_ge _ _ (Nat.le_refl _), Nat.sub_self, Nat.zero_add, Nat.zero_mul, Nat.zero_add]
theorem app_g0 {α : Type} {c : α → List PV} (hc : CellsCl c) {τ : Nat → Option Nat} {sz : Nat} {g : Nat → α} {L : List PV} (hL : L = c (g 0)) : RowEq (Row.ren τ ⟨.own, false, 1, sz, fun x b => nthP L ((0 + x) * sz + b)⟩) (vRow c sz (0 + 1) g) := by
  subst hL
  refine o_eq hc (Nat.le_refl _) fun a ha b hb => ?_
  obtain rfl : a = 0 := by omega
  show nthP (c (g 0)) ((0 + 0) * sz + b) = nthP (c (g 0)) b
  simp
def lF {α : Type} (d : α) (l : List α) (a : Nat) : α := l.getD a d
theorem lF_lt {α : Type} {d : α} {l r : List α} {a : Nat} (h : a < l.length) : lF d (l ++ r) a = lF d l a := by
  unfold lF; rw [List.getD_eq_getElem?_getD, List.getD_eq_getElem?_getD, List.getElem?_append_left h]
theorem lF_at {α : Type} {d y : α} {l r : List α} : lF d (l ++ y :: r) l.length = y := by
  unfold lF; rw [List.getD_eq_getElem?_getD]; simp
theorem app_l {α : Type} {c : α → List PV} (hc : CellsCl c) {τ : Nat → Option Nat} {sz m M : Nat} {d : α} {l : List α} {y : α} {L : List PV} (hl : l.length = m) (hL : L = c y) (hM : M = m + 1) : RowEq (Row.ren τ ⟨.own, false, M, sz, appF m (fun x => tF c (lF d l) (0 + x)) (fun x b => nthP L ((0 + x) * sz + b))⟩) (vRow c sz (m + 1) (lF d (l ++ [y]))) := by
  subst hL hM hl
  refine o_eq hc (Nat.le_refl _) fun a ha b hb => ?_
  by_cases e : a < l.length
  · rw [appF_lt _ _ e, Nat.zero_add, lF_lt e]; rfl
  · obtain rfl : a = l.length := by omega
    rw [appF_ge _ _ (Nat.le_refl _), Nat.sub_self, Nat.zero_add, Nat.zero_mul, Nat.zero_add, lF_at]
theorem app_l0 {α : Type} {c : α → List PV} (hc : CellsCl c) {τ : Nat → Option Nat} {sz : Nat} {d : α} {l : List α} {y : α} {L : List PV} (hl : l.length = 0) (hL : L = c y) : RowEq (Row.ren τ ⟨.own, false, 1, sz, fun x b => nthP L ((0 + x) * sz + b)⟩) (vRow c sz (0 + 1) (lF d (l ++ [y]))) := by
  subst hL
  have : l = [] := List.length_eq_zero_iff.1 hl
  subst this
  refine o_eq hc (Nat.le_refl _) fun a ha b hb => ?_
  obtain rfl : a = 0 := by omega
  show nthP (c y) ((0 + 0) * sz + b) = nthP (c (lF d ([] ++ [y]) 0)) b
  simp [lF]
theorem upd_o {α : Type} {c : α → List PV} (hc : CellsCl c) {τ : Nat → Option Nat} {sz n i j : Nat} {g : Nat → α} {y : α} {L : List PV} (hL : L = c y) (hj : j = i) : RowEq (Row.ren τ ⟨.own, false, n, sz, updR (tF c g) j L⟩) (oRow c sz n (updA g i y)) := by
  subst hL hj
  refine o_eq hc (Nat.le_refl _) fun a ha b hb => ?_
  unfold updR updA
  by_cases e : a = j
  · subst e; simp
  · have : Nat.beq a j = false := by cases hb2 : Nat.beq a j; rfl; exact absurd (Nat.eq_of_beq_eq_true hb2) e
    simp only [this, if_neg e, cond_false]; rfl
theorem zero_o {α : Type} {c : α → List PV} (hc : CellsCl c) {τ : Nat → Option Nat} {sz n n' : Nat} {y : α} {L : List PV} (hL : L = c y) (hn : n' = n) : RowEq (Row.ren τ ⟨.own, false, n, sz, fun _ => nthP L⟩) (oRow c sz n' (fun _ => y)) := by
  subst hL hn
  exact o_eq hc (Nat.le_refl _) fun a ha b hb => rfl
theorem arg_o {α : Type} {c : α → List PV} (hc : CellsCl c) {mem : List Row} {L : List Nat} {l n sz : Nat} {g : Nat → α} {s : RS} (hr : rowAt mem l = some ⟨s, false, n, sz, tF c g⟩) (hs : s.live) (hL : l ∈ L) : ArgOk mem L (.lsl l 0 n) (.vsl n sz (tF c g)) :=
  argLsl (r := ⟨s, false, n, sz, tF c g⟩) hr hs hL (by simp) fun a ha b hb => ⟨by show tF c g (0 + a) b = _; rw [Nat.zero_add], tF_cl hc g a b⟩
theorem arg_v {α : Type} {c : α → List PV} (hc : CellsCl c) {mem : List Row} {L : List Nat} {l n sz : Nat} {g : Nat → α} (hr : rowAt mem l = some (vRow c sz n g)) (hL : l ∈ L) : ArgOk mem L (slP n l) (.vsl n sz (tF c g)) := by
  cases n with
  | zero => exact argNil
  | succ n => exact arg_o hc hr trivial hL
theorem peq_slP {τ : Nat → Option Nat} {k l l' : Nat} (h : τ l = some l') : PEq ((slP k l).ren τ) (slP k l') := by
  cases k with
  | zero => exact PEq.refl _
  | succ k =>
    show PEq (match τ l with | some l' => PV.lsl l' 0 (k + 1) | none => .junk) (.lsl l' 0 (k + 1))
    rw [h]; exact PEq.refl _
theorem peq_nil {sz : Nat} {f : Nat → Nat → PV} : PEq (.val (.slice none 0 0)) (.vsl 0 sz f) := fun k ρ I w v h => ⟨none, 0, h, Nat.le_refl _, .inl rfl⟩
theorem argTI {mem : List Row} {L : List Nat} {p : PV} {n : Nat} {g : Nat → Int} (h : ArgOk mem L p (.vsl n 1 (tF c1 g))) : ArgOk mem L p (.vsl n 1 (tI g)) := fun ρ I w v hm hv => by
  obtain ⟨a, cap, h1, h2, h3⟩ := h ρ I w v hm hv
  refine ⟨a, cap, h1, h2, h3.imp id ?_⟩
  rintro ⟨b, o, e, hb, h4⟩
  refine ⟨b, o, e, hb, fun i hi j hj => ?_⟩
  have hj0 : j = 0 := by omega
  subst hj0
  exact h4 i hi 0 hj
abbrev cN (x : Nat) : List PV := [vi (x : Int)]
theorem cN_cl : CellsCl cN := fun _ => ⟨trivial, trivial⟩
def slLen : PV → Option Nat
  | .vsl n _ _ => some n
  | .lsl _ _ n => some n
  | .val (.slice none n _) => some n
  | _ => none
section
variable {G : Pg} {N : Nat} {Γ : Fr} {st : PSt} {K : Exit → PSt → Prop} {ops : Array Oper} {o : Oper} {rest : List Oper} {d : Nat}
theorem slLen_rel {k : Nat} {ρ : Nat → Loc} {I : Nat → Prop} {w : World} {p : PV} {v : Value} {n : Nat} (h : slLen p = some n) (hv : VRel k ρ I w p v) : ∃ a cap, v = .slice a n cap ∧ (0 < n → (∃ x, a = some x) ∨ ∃ c, p = .val (.slice none n c)) := by
  unfold slLen at h
  split at h
  · simp only [Option.some.injEq] at h
    subst h
    obtain ⟨a, cap, rfl, _, h3⟩ := hv
    refine ⟨a, cap, rfl, fun hn => ?_⟩
    rcases h3 with h3 | ⟨b, o, e, _⟩
    · omega
    · exact .inl ⟨_, e⟩
  · simp only [Option.some.injEq] at h
    subst h
    rcases hv.2 with ⟨rfl, a, rfl⟩ | ⟨cap, _, rfl, _⟩
    · exact ⟨a, 0, rfl, fun h => by omega⟩
    · exact ⟨_, cap, rfl, fun _ => .inl ⟨_, rfl⟩⟩
  · rename_i m c
    simp only [Option.some.injEq] at h
    subst h
    exact ⟨none, c, hv, fun _ => .inr ⟨c, rfl⟩⟩
  · cases h
end
theorem clq {α : Type} {c : α → List PV} (h : CellsCl c := by first | exact c1_cl | exact cN_cl | exact cO_cl | exact cE_cl | exact cP_cl) : CellsCl c := h
theorem rqq {r r' : Row} (h : RowEq r r' := by first | exact RowEq.cl (tape_cl _ _ _) | exact RowEq.cl (i_cl _ _) | exact RowEq.cl (o_cl clq _ _ _) | exact RowEq.cl (v_cl clq _ _ _) | exact app_l clq (by assumption) rfl rfl | exact app_l0 clq (by assumption) rfl | exact app_g clq rfl rfl | exact app_g0 clq rfl | exact app_v clq rfl rfl | exact app_o clq rfl rfl | exact app_0 clq rfl | exact upd_o clq rfl (by omega) | exact zero_o clq rfl rfl | exact var_eq (by (repeat refine ⟨PEq.refl _, ?_⟩); exact trivial) | exact i_eq (Nat.le_refl _) (fun _ _ => rfl)) : RowEq r r' := h
theorem tmq {P : Prop} (h : P := by (repeat (first | refine ⟨PEq.refl _, ?_⟩ | refine ⟨peq_slP rfl, ?_⟩ | refine ⟨PEq.cl _ (by assumption), ?_⟩)); exact trivial) : P := h
end Go.Proofs.YtcefhgomkehokaaGreat
