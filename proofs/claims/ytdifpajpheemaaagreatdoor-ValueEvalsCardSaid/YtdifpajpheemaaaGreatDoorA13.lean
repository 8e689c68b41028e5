/- Made expressions (plain): which are valid, and of a type. -/
import Derived.Test.YtdifpajpheemaaaGreatDoorA06
import Derived.Test.YtdifpajpheemaaaGreatDoorA08
set_option linter.unusedSimpArgs false
set_option linter.unusedVariables false
set_option maxRecDepth 100000
namespace Go.Proofs.YtdifpajpheemaaaGreatDoor
abbrev tH : Ty := ⟨false, 0, 1, 0⟩
abbrev tR : Ty := ⟨false, 1, -1, 0⟩
abbrev n_h : ByteArray := ⟨#[104]⟩
abbrev n_g : ByteArray := ⟨#[103]⟩
abbrev n_f : ByteArray := ⟨#[102]⟩
abbrev n_r1 : ByteArray := ⟨#[114, 49]⟩
abbrev n_r2 : ByteArray := ⟨#[114, 50]⟩
abbrev n_r3 : ByteArray := ⟨#[114, 51]⟩
abbrev n_r4 : ByteArray := ⟨#[114, 52]⟩
abbrev n_a : ByteArray := ⟨#[97]⟩
abbrev n_b : ByteArray := ⟨#[98]⟩
abbrev n_w : ByteArray := ⟨#[119]⟩
abbrev n_s : ByteArray := ⟨#[115]⟩
abbrev n_gross : ByteArray := ⟨#[103, 114, 111, 115, 115]⟩
abbrev n_time : ByteArray := ⟨#[116, 105, 109, 101]⟩
structure Env (N S P : List Df) : Prop where
  h : findS N n_h = (tH, 0)
  g : findS N n_g = (t0, 0)
  f : findS N n_f = (tB, 0)
  r1 : findS N n_r1 = (tR, 0)
  r2 : findS N n_r2 = (tM, 0)
  r3 : findS N n_r3 = (tB, 0)
  r4 : findS N n_r4 = (t0, 0)
  a : findS N n_a = (tM, 0)
  w : findS S n_w = (tR, 0)
  s : findS S n_s = (t0, 0)
  gross : findS P n_gross = (tM, 0)
  time : findS P n_time = (tH, 0)
def decL : List (Int × Int) := [(1, 1), (2, 1), (0, 1), (5, 2), (1, 4), (76, 5), (40, 1), (1, 100), (3, 1), (100, 1)]
inductive Lit : Ex → Prop where
  | mk {op vn vd um uh ud : Int} {nm : ByteArray} {cnt mode : Int} {nk : Nat} {kf : Nat → Ex} (h : op = 1 ∨ op = 19 → (vn, vd) ∈ decL) (hk : ∀ i, i < nk → Lit (kf i)) : Lit (.mk op vn vd um uh ud nm cnt mode nk kf)
structure EOk (h : Nat) (t : Ty) (e : Ex) : Prop where
  bd : Bd e
  vl : ∀ n, h ≤ n → validS n e = true
  wt : ∀ N S P, Env N S P → ∀ n, h ≤ n → typeS N S P n e = (t, 0)
  lit : Lit e
theorem EOk.mono {h h' : Nat} {t : Ty} {e : Ex} (H : EOk h t e) (hh : h ≤ h') : EOk h' t e := ⟨H.bd, fun n hn => H.vl n (by omega), fun N S P hE n hn => H.wt N S P hE n (by omega), H.lit⟩
theorem EOk.node {h : Nat} {t : Ty} {op vn vd um uh ud : Int} {nm : ByteArray} {cnt mode : Int} {nk : Nat} {kf : Nat → Ex} (τ : Nat → Ty) (hb : -9223372036854775808 ≤ vn ∧ vn ≤ 9223372036854775807 ∧ nm.size ≤ 9223372036854775807) (hk : (nk : Int) = kidsN op) (hf : fieldS (.mk op vn vd um uh ud nm cnt mode nk kf) = true) (hkid : ∀ i, i < nk → EOk h (τ i) (kf i))
    (ho : ∀ N S P, Env N S P → opS N S P (.mk op vn vd um uh ud nm cnt mode nk kf) (if 0 < nk then τ 0 else t0) (if 1 < nk then τ 1 else t0) (if 2 < nk then τ 2 else t0) = (t, 0)) (hl : op = 1 ∨ op = 19 → (vn, vd) ∈ decL) : EOk (h + 1) t (.mk op vn vd um uh ud nm cnt mode nk kf) := by
  refine ⟨.mk hb fun i hi => (hkid i hi).bd, fun n hn => ?_, fun N S P hE n hn => ?_, .mk hl fun i hi => (hkid i hi).lit⟩
  · obtain ⟨m, rfl⟩ : ∃ m, n = m + 1 := ⟨n - 1, by omega⟩
    have e1 : decide (((nk : Nat) : Int) = kidsN op) = true := decide_eq_true hk
    show (decide (((nk : Nat) : Int) = kidsN op) && (fieldS _ && allK nk (fun i => validS m (kf i)))) = true
    rw [e1, hf, allK_iff.2 fun i hi => (hkid i hi).vl m (by omega)]; rfl
  · obtain ⟨m, rfl⟩ : ∃ m, n = m + 1 := ⟨n - 1, by omega⟩
    have hT : ∀ i, typeS N S P m ((Ex.mk op vn vd um uh ud nm cnt mode nk kf).kf i) = (fun i => typeS N S P m (kf i)) i := fun _ => rfl
    have h3 : nk ≤ 3 := by have := kidsN_le op; omega
    obtain ⟨_, h2⟩ := typeS_succ N S P m _ hT h3
    have hz : ∀ j, j < nk → typeS N S P m (kf j) = (τ j, 0) := fun j hj => (hkid j hj).wt N S P hE m (by omega)
    rw [h2 (fun j hj => by show (typeS N S P m (kf j)).2 = 0; rw [hz j hj])]
    have hkt : ∀ j, kt (fun i => typeS N S P m (kf i)) nk j = if j < nk then τ j else t0 := fun j => by
      unfold kt
      by_cases hj : j < nk
      · rw [if_pos hj, if_pos hj]; show (typeS N S P m (kf j)).1 = _; rw [hz j hj]
      · rw [if_neg hj, if_neg hj]
    show opS N S P _ (kt _ nk 0) (kt _ nk 1) (kt _ nk 2) = _
    rw [hkt, hkt, hkt]
    exact ho N S P hE
def k1 (a : Ex) (_ : Nat) : Ex := a
def k2 (a b : Ex) (i : Nat) : Ex := if i = 0 then a else b
def k3 (a b c : Ex) (i : Nat) : Ex := if i = 0 then a else if i = 1 then b else c
def kn (_ : Nat) : Ex := .nil
abbrev eOp (op : Int) (nk : Nat) (kf : Nat → Ex) : Ex := .mk op 0 0 0 0 0 ⟨#[]⟩ 0 0 nk kf
abbrev eNm (op : Int) (nm : ByteArray) (nk : Nat) (kf : Nat → Ex) : Ex := .mk op 0 0 0 0 0 nm 0 0 nk kf
theorem ok_name {nm : ByteArray} {t : Ty} (h1 : nameS nm = true) (h2 : nm.size ≤ 100) (h3 : ∀ N S P, Env N S P → findS N nm = (t, 0)) : EOk 1 t (eNm 3 nm 0 kn) :=
  EOk.node (h := 0) (fun _ => t0) ⟨by show (-9223372036854775808 : Int) ≤ 0; decide, by show (0 : Int) ≤ 9223372036854775807; decide, by omega⟩ rfl (by simp [fieldS, Ex.op, Ex.vn, Ex.vd, Ex.um, Ex.uh, Ex.ud, Ex.nm, Ex.cnt, Ex.mode, h1]) (fun i hi => by omega) (fun N S P hE => by show findS N nm = _; exact h3 N S P hE) (by omega)
theorem ok_past {op : Int} {nm : ByteArray} {t : Ty} {c : Int} (hop : op = 20 ∨ op = 21) (h1 : nameS nm = true) (h2 : nm.size ≤ 100) (hc : 1 ≤ c ∧ c ≤ 120) (h3 : ∀ N S P, Env N S P → findS P nm = (t, 0)) : EOk 1 t (.mk op 0 0 0 0 0 nm c 0 0 kn) := by
  refine EOk.node (h := 0) (fun _ => t0) ⟨by decide, by decide, by omega⟩ ?_ ?_ (fun i hi => by omega) (fun N S P hE => ?_) (by omega)
  · rcases hop with rfl | rfl <;> rfl
  · rcases hop with rfl | rfl <;> simp [fieldS, Ex.op, Ex.vn, Ex.vd, Ex.um, Ex.uh, Ex.ud, Ex.nm, Ex.cnt, Ex.mode, h1, hc]
  · rcases hop with rfl | rfl <;> exact h3 N S P hE
theorem ok_truth {c : Int} (hc : c = 0 ∨ c = 1) : EOk 1 tB (.mk 2 0 0 0 0 0 ⟨#[]⟩ c 0 0 kn) := by
  refine EOk.node (h := 0) (fun _ => t0) ⟨by decide, by decide, by decide⟩ rfl ?_ (fun i hi => by omega) (fun N S P hE => rfl) (by omega)
  rcases hc with rfl | rfl <;> simp [fieldS, Ex.op, Ex.vn, Ex.vd, Ex.um, Ex.uh, Ex.ud, Ex.nm, Ex.cnt, Ex.mode] <;> rfl
theorem ok_num {x : Int × Int} {m h d : Int} (hx : x ∈ decL) (hu : unitS m h d = true) : EOk 1 ⟨false, m, h, d⟩ (.mk 1 x.1 x.2 m h d ⟨#[]⟩ 0 0 0 kn) := by
  have key : ∀ x ∈ decL, -9223372036854775808 ≤ x.1 ∧ x.1 ≤ 9223372036854775807 ∧ decS x.1 x.2 = true := by decide +kernel
  obtain ⟨k1, k2, k3⟩ := key x hx
  refine EOk.node (h := 0) (fun _ => t0) ⟨k1, k2, by decide⟩ rfl ?_ (fun i hi => by omega) (fun N S P hE => rfl) (fun _ => hx)
  simp [fieldS, Ex.op, Ex.vn, Ex.vd, Ex.um, Ex.uh, Ex.ud, Ex.nm, Ex.cnt, Ex.mode, k3, hu]
theorem ok_op {h : Nat} {t : Ty} {op : Int} {nk : Nat} {kf : Nat → Ex} (τ : Nat → Ty) (hop : 5 ≤ op ∧ op ≤ 18) (hk : (nk : Int) = kidsN op) (hkid : ∀ i, i < nk → EOk h (τ i) (kf i))
    (ho : ∀ N S P, opS N S P (eOp op nk kf) (if 0 < nk then τ 0 else t0) (if 1 < nk then τ 1 else t0) (if 2 < nk then τ 2 else t0) = (t, 0)) : EOk (h + 1) t (eOp op nk kf) := by
  refine EOk.node τ ⟨by decide, by decide, by decide⟩ hk ?_ hkid (fun N S P _ => ho N S P) (by omega)
  have e1 : ¬ op = 1 := by omega
  have e2 : ¬ op = 2 := by omega
  have e3 : ¬ op = 3 := by omega
  have e4 : ¬ op = 4 := by omega
  have e5 : ¬ op = 19 := by omega
  have e6 : ¬ op = 20 := by omega
  have e7 : ¬ op = 21 := by omega
  simp [fieldS, Ex.op, Ex.vn, Ex.vd, Ex.um, Ex.uh, Ex.ud, Ex.nm, Ex.cnt, Ex.mode, e1, e2, e3, e4, e5, e6, e7]
theorem ok_two {h : Nat} {t ta tb : Ty} {op : Int} {a b : Ex} (hop : 5 ≤ op ∧ op ≤ 15) (ha : EOk h ta a) (hb : EOk h tb b) (ho : ∀ N S P, opS N S P (eOp op 2 (k2 a b)) ta tb t0 = (t, 0)) : EOk (h + 1) t (eOp op 2 (k2 a b)) := by
  refine ok_op (fun i => if i = 0 then ta else tb) ⟨hop.1, by omega⟩ ?_ (fun i hi => ?_) ho
  · unfold kidsN; rw [if_neg (by omega), if_neg (by omega), if_pos hop]; rfl
  · rcases (by omega : i = 0 ∨ i = 1) with rfl | rfl
    · exact ha
    · exact hb
theorem ok_one {h : Nat} {t ta : Ty} {op : Int} {a : Ex} (hop : op = 16 ∨ op = 17) (ha : EOk h ta a) (ho : ∀ N S P, opS N S P (eOp op 1 (k1 a)) ta t0 t0 = (t, 0)) : EOk (h + 1) t (eOp op 1 (k1 a)) := by
  refine ok_op (fun _ => ta) ⟨by omega, by omega⟩ ?_ (fun i hi => ha) ho
  rcases hop with rfl | rfl <;> rfl
theorem ok_if {h : Nat} {t : Ty} {a b c : Ex} (ha : EOk h tB a) (hb : EOk h t b) (hc : EOk h t c) : EOk (h + 1) t (eOp 18 3 (k3 a b c)) := by
  refine ok_op (fun i => if i = 0 then tB else t) ⟨by decide, by decide⟩ rfl (fun i hi => ?_) (fun N S P => ?_)
  · rcases (by omega : i = 0 ∨ i = 1 ∨ i = 2) with rfl | rfl | rfl
    · exact ha
    · exact hb
    · exact hc
  · obtain ⟨tb, tm, th, td⟩ := t
    cases tb <;> simp [opS, Ex.op, resS, equS]
theorem ok_scale {h : Nat} {t : Ty} {nm : ByteArray} {a : Ex} (h1 : nameS nm = true) (h2 : nm.size ≤ 100) (ha : EOk h t0 a) (h3 : ∀ N S P, Env N S P → findS S nm = (t, 0)) : EOk (h + 1) t (eNm 4 nm 1 (k1 a)) := by
  refine EOk.node (fun _ => t0) ⟨by decide, by decide, by omega⟩ rfl ?_ (fun i hi => ha) (fun N S P hE => ?_) (by omega)
  · simp [fieldS, Ex.op, Ex.vn, Ex.vd, Ex.um, Ex.uh, Ex.ud, Ex.nm, Ex.cnt, Ex.mode, h1]
  · have := h3 N S P hE
    simp [opS, Ex.op, Ex.nm, this, resS, equS]
theorem key0 : ∀ x ∈ [((1 : Int), (1 : Int)), (1, 100), (1, 4)], x ∈ decL := by decide +kernel
theorem ok_round {h : Nat} {t : Ty} {x : Int × Int} {mode : Int} {a : Ex} (hx : x ∈ [((1 : Int), (1 : Int)), (1, 100), (1, 4)]) (hm : 0 ≤ mode ∧ mode ≤ 6) (ht : t.b = false) (hu : unitS t.m t.h t.d = true) (ha : EOk h t a) : EOk (h + 1) t (.mk 19 x.1 x.2 t.m t.h t.d ⟨#[]⟩ 0 mode 1 (k1 a)) := by
  have key : ∀ x ∈ [((1 : Int), (1 : Int)), (1, 100), (1, 4)], -9223372036854775808 ≤ x.1 ∧ x.1 ≤ 9223372036854775807 ∧ decS x.1 x.2 = true ∧ 0 < x.1 := by decide +kernel
  obtain ⟨k1', k2', k3', k4'⟩ := key x hx
  refine EOk.node (fun _ => t) ⟨k1', k2', by decide⟩ rfl ?_ (fun i hi => ha) (fun N S P hE => ?_) (fun _ => key0 _ hx)
  · have : modeB mode = true := by simp [modeB]; omega
    simp [fieldS, Ex.op, Ex.vn, Ex.vd, Ex.um, Ex.uh, Ex.ud, Ex.nm, Ex.cnt, Ex.mode, k3', k4', hu, this]
  · obtain ⟨tb, tm, th, td⟩ := t
    have ht : tb = false := ht
    subst ht
    simp [opS, Ex.op, Ex.um, Ex.uh, Ex.ud, resS, equS]
def tabL : List (ByteArray × Int × Ty) := [(n_h, 1, tH), (n_g, 1, t0), (n_f, 1, tB), (n_gross, 5, tM), (n_time, 5, tH), (n_w, 2, tR), (n_s, 2, t0), (n_r1, 3, tR), (n_r2, 3, tM), (n_r3, 3, tB), (n_r4, 3, t0), (n_a, 4, t0), (n_b, 4, t0)]
def neds : List ByteArray := [n_h, n_g, n_f, n_gross, n_time, n_w, n_s, n_r1, n_r2, n_r3, n_r4, n_a]
structure GD (hh : Nat) (d : Df) : Prop where
  tab : (d.nm, d.kind, d.ty) ∈ tabL
  df : defS d = true
  bd : BdD d
  wt : d.kind = 3 ∨ d.kind = 4 → EOk hh (tyD d) d.body
  dy : d.kind = 3 → d.day = 20454 ∨ d.day = 20459
structure AGood (hh : Nat) (l : List Df) : Prop where
  all : ∀ d, d ∈ l → GD hh d
  key : (l.map fun d => (d.nm.toList, d.day)).Nodup
  has : ∀ n, n ∈ neds → n ∈ l.map Df.nm
  len : l.length ≤ 30
theorem tab_one : ∀ a, a ∈ tabL → ∀ b, b ∈ tabL → a.1.toList = b.1.toList → a.2 = b.2 := by decide +kernel
theorem find_good {l : List Df} {nm : ByteArray} {k : Int} {t : Ty} (p : Df → Bool) (hall : ∀ d, d ∈ l → (d.nm, d.kind, d.ty) ∈ tabL) (ht : (nm, k, t) ∈ tabL) (hp : ∀ d, d ∈ l → d.kind = k → p d = true) (hm : nm ∈ l.map Df.nm) : findS (l.filter p) nm = (if k = 4 then tM else t, 0) := by
  induction l with
  | nil => simp at hm
  | cons d l ih =>
    have hd := hall d (List.mem_cons_self ..)
    by_cases hn : d.nm.toList = nm.toList
    · have := tab_one _ hd _ ht hn
      simp only [Prod.mk.injEq] at this
      rw [List.filter_cons_of_pos (hp d (List.mem_cons_self ..) this.1)]
      unfold findS
      rw [if_pos hn, this.1, this.2]
      split <;> rfl
    · have hm' : nm ∈ l.map Df.nm := by
        rw [List.map_cons, List.mem_cons] at hm
        rcases hm with rfl | hm
        · exact absurd rfl hn
        · exact hm
      have ih' := ih (fun d' hd' => hall d' (List.mem_cons_of_mem _ hd')) (fun d' hd' => hp d' (List.mem_cons_of_mem _ hd')) hm'
      cases hpd : p d
      · rw [List.filter_cons_of_neg (by simp [hpd])]; exact ih'
      · rw [List.filter_cons_of_pos hpd]
        unfold findS
        rw [if_neg hn]; exact ih'
theorem mm {P : Prop} (h : P := by (first | unfold tabL | unfold neds); repeat' (first | exact List.Mem.head _ | refine List.Mem.tail _ ?_)) : P := h
theorem env_good {l : List Df} (hall : ∀ d, d ∈ l → (d.nm, d.kind, d.ty) ∈ tabL) (has : ∀ n, n ∈ neds → n ∈ l.map Df.nm) : Env (l.filter isNm) (l.filter isSc) (l.filter isPa) := by
  have hN : ∀ {nm : ByteArray} {k : Int} {t : Ty}, k = 1 ∨ k = 3 ∨ k = 4 → (nm, k, t) ∈ tabL → nm ∈ neds → findS (l.filter isNm) nm = (if k = 4 then tM else t, 0) := fun hk ht hn => find_good isNm hall ht (fun d _ hd => by simp [isNm, hd, hk]) (has _ hn)
  have hS : ∀ {nm : ByteArray} {t : Ty}, (nm, (2 : Int), t) ∈ tabL → nm ∈ neds → findS (l.filter isSc) nm = (t, 0) := fun ht hn => find_good isSc hall ht (fun d _ hd => by simp [isSc, hd]) (has _ hn)
  have hP : ∀ {nm : ByteArray} {t : Ty}, (nm, (5 : Int), t) ∈ tabL → nm ∈ neds → findS (l.filter isPa) nm = (t, 0) := fun ht hn => find_good isPa hall ht (fun d _ hd => by simp [isPa, hd]) (has _ hn)
  exact ⟨hN (k := 1) (t := tH) (by decide) mm mm, hN (k := 1) (t := t0) (by decide) mm mm, hN (k := 1) (t := tB) (by decide) mm mm, hN (k := 3) (t := tR) (by decide) mm mm, hN (k := 3) (t := tM) (by decide) mm mm, hN (k := 3) (t := tB) (by decide) mm mm, hN (k := 3) (t := t0) (by decide) mm mm, hN (k := 4) (t := t0) (by decide) mm mm, hS mm mm, hS mm mm, hP mm mm, hP mm mm⟩
theorem lF_take {l : List Df} {n : Nat} (hn : n < l.length) : lF dD l n = l[n] := by unfold lF; rw [List.getD_eq_getElem?_getD, List.getElem?_eq_getElem hn]; rfl
theorem AGood.env {hh : Nat} {l : List Df} (h : AGood hh l) : Env (l.filter isNm) (l.filter isSc) (l.filter isPa) := env_good (fun d hd => (h.all d hd).tab) h.has
theorem AGood.perm {hh : Nat} {l l' : List Df} (h : AGood hh l) (hp : l.Perm l') : AGood hh l' :=
  ⟨fun d hd => h.all d (hp.mem_iff.2 hd), (hp.map _).nodup_iff.1 h.key, fun n hn => (hp.map _).mem_iff.1 (h.has n hn), by rw [← hp.length_eq]; exact h.len⟩
end Go.Proofs.YtdifpajpheemaaaGreatDoor
namespace Go.Proofs.YtdifpajpheemaaaGreatDoor
theorem pop_unguard {G : Pg2} {N : Nat} {Γ : Fr} {st : PSt} {K : Exit → PSt → Prop} {ops : Array Oper} {o : Oper} {rest : List Oper} {j : Nat} {want : Bool} (hg : o.guard = some (j, want)) (hgv : gval ops st j want = some true) (h : POps G.toPg N Γ ops ({ o with guard := none } :: rest) st K) : POps G.toPg N Γ ops (o :: rest) st K := .mk fun ρ I a w hrel => by
  have hw := gval_sound hrel hg hgv
  have h2 := h.go ρ I a w hrel
  have hw2 : Region.wanted { o with guard := none } (yielded ops a.tmps) = true := by simp [Region.wanted]
  simp only [wpList, hw2, hw, if_true] at h2 ⊢
  exact h2
theorem pop_opt {G : Pg2} {N : Nat} {Γ : Fr} {st : PSt} {K : Exit → PSt → Prop} {ops : Array Oper} {l : List Oper} (t : Nat) {g : Bool} {q : PV} (ht : st.get t = .opt g q) (hg : g = true) (h : POps G.toPg N Γ ops l (st.put t q) K) : POps G.toPg N Γ ops l st K := .mk fun ρ I a w hrel => h.go ρ I a w ⟨hrel.fr, hrel.defers, hrel.size, fun s => by
  have hs := hrel.slot s
  show VRel _ ρ I w (look s ((t, q) :: st.tm)) _
  simp only [look]
  cases hb : Nat.beq s t
  · exact hs
  · have e := Nat.eq_of_beq_eq_true hb
    subst e
    rw [ht] at hs
    exact hs.1 hg⟩
theorem number_c : PureC G.P 19 [] (fun r => r = vT t0) := by
  refine pure_of (G := G.toPg) (fn := Tryz.f19) Tryz.func19 rfl rfl rfl ?_; intro Γ hk
  repeat' (first | refine yo ?_ ?_ | refine yw ?_ ?_ | refine yk ?_ ?_ | exact trivial | with_reducible refine wA ?_ ?_ | refine ys ?_ ?_ | refine xs_done ?_ | refine yl ?_ ?_ | refine w8 ?_ | refine w9 ?_ | refine w1 ?_ | refine w2 ?_ | refine w3 ?_ | refine w4 ?_ | refine w5 ?_ | refine w6 ?_ | refine w7 ?_ | refine yo0 ?_ ?_ | refine yw0 ?_ ?_ | exact qq | fail)
  exact kretv rfl ⟨Nat.zero_lt_one, trivial⟩ rfl rfl
theorem money_c : PureC G.P 20 [] (fun r => r = vT tM) := by
  refine pure_of (G := G.toPg) (fn := Tryz.f20) Tryz.func20 rfl rfl rfl ?_; intro Γ hk
  repeat' (first | refine yo ?_ ?_ | refine yw ?_ ?_ | refine yk ?_ ?_ | exact trivial | with_reducible refine wA ?_ ?_ | refine ys ?_ ?_ | refine xs_done ?_ | refine yl ?_ ?_ | refine w8 ?_ | refine w9 ?_ | refine w1 ?_ | refine w2 ?_ | refine w3 ?_ | refine w4 ?_ | refine w5 ?_ | refine w6 ?_ | refine w7 ?_ | refine yo0 ?_ ?_ | refine yw0 ?_ ?_ | exact qq | fail)
  exact kretv rfl ⟨Nat.zero_lt_one, trivial⟩ rfl rfl
theorem hours_c : PureC G.P 21 [] (fun r => r = vT tH) := by
  refine pure_of (G := G.toPg) (fn := Tryz.f21) Tryz.func21 rfl rfl rfl ?_; intro Γ hk
  repeat' (first | refine yo ?_ ?_ | refine yw ?_ ?_ | refine yk ?_ ?_ | exact trivial | with_reducible refine wA ?_ ?_ | refine ys ?_ ?_ | refine xs_done ?_ | refine yl ?_ ?_ | refine w8 ?_ | refine w9 ?_ | refine w1 ?_ | refine w2 ?_ | refine w3 ?_ | refine w4 ?_ | refine w5 ?_ | refine w6 ?_ | refine w7 ?_ | refine yo0 ?_ ?_ | refine yw0 ?_ ?_ | exact qq | fail)
  exact kretv rfl ⟨Nat.zero_lt_one, trivial⟩ rfl rfl
theorem rate_c : PureC G.P 22 [] (fun r => r = vT tR) := by
  refine pure_of (G := G.toPg) (fn := Tryz.f22) Tryz.func22 rfl rfl rfl ?_; intro Γ hk
  repeat' (first | refine yo ?_ ?_ | refine yw ?_ ?_ | refine yk ?_ ?_ | exact trivial | with_reducible refine wA ?_ ?_ | refine ys ?_ ?_ | refine xs_done ?_ | refine yl ?_ ?_ | refine w8 ?_ | refine w9 ?_ | refine w1 ?_ | refine w2 ?_ | refine w3 ?_ | refine w4 ?_ | refine w5 ?_ | refine w6 ?_ | refine w7 ?_ | refine yo0 ?_ ?_ | refine yw0 ?_ ?_ | exact qq | fail)
  exact kretv rfl ⟨Nat.zero_lt_one, trivial⟩ rfl rfl
theorem truth_c : PureC G.P 23 [] (fun r => r = vT tB) := by
  refine pure_of (G := G.toPg) (fn := Tryz.f23) Tryz.func23 rfl rfl rfl ?_; intro Γ hk
  repeat' (first | refine yo ?_ ?_ | refine yw ?_ ?_ | refine yk ?_ ?_ | exact trivial | with_reducible refine wA ?_ ?_ | refine ys ?_ ?_ | refine xs_done ?_ | refine yl ?_ ?_ | refine w8 ?_ | refine w9 ?_ | refine w1 ?_ | refine w2 ?_ | refine w3 ?_ | refine w4 ?_ | refine w5 ?_ | refine w6 ?_ | refine w7 ?_ | refine yo0 ?_ ?_ | refine yw0 ?_ ?_ | exact qq | fail)
  exact kretv rfl ⟨Nat.zero_lt_one, trivial⟩ rfl rfl
theorem argAggL {mem : List Row} {L : List Nat} {n : Nat} {f g : Nat → PV} (h : ∀ i, i < n → ArgOk mem L (f i) (g i)) : ArgOk mem L (.agg n f) (.agg n g) := by
  rintro ρ I w v hm ⟨vs, h1, h2, h3⟩
  exact ⟨vs, h1, h2, fun i hi => ⟨(h3 i hi).1, h i hi ρ I w _ hm (h3 i hi).2⟩⟩
theorem argEx {mem : List Row} {L : List Nat} {op vn vd um uh ud : Int} {nm : ByteArray} {cnt mode : Int} {nk : Nat} {kf : Nat → Ex} {p : PV} (h : ArgOk mem L p (.vsl nk 10 (Ex.mk op vn vd um uh ud nm cnt mode nk kf).kc)) :
    ArgOk mem L (.agg 10 (nthP [vi op, vi vn, vi vd, vi um, vi uh, vi ud, vs nm, vi cnt, vi mode, p])) (vX (.mk op vn vd um uh ud nm cnt mode nk kf)) :=
  argAggL fun i hi => by
    rcases (by omega : i = 0 ∨ i = 1 ∨ i = 2 ∨ i = 3 ∨ i = 4 ∨ i = 5 ∨ i = 6 ∨ i = 7 ∨ i = 8 ∨ i = 9) with rfl | rfl | rfl | rfl | rfl | rfl | rfl | rfl | rfl | rfl
    all_goals first
      | exact h
      | exact argVal
theorem c10 {y : Nat} (h : y < 10) : y = 0 ∨ y = 1 ∨ y = 2 ∨ y = 3 ∨ y = 4 ∨ y = 5 ∨ y = 6 ∨ y = 7 ∨ y = 8 ∨ y = 9 := by omega
theorem argK1 {mem : List Row} {L : List Nat} {l : Nat} {a : Ex} {op vn vd um uh ud : Int} {nm : ByteArray} {cnt mode : Int} (hr : rowAt mem l = some ⟨.own, false, 1, 10, fun x y => nthP (cX a) (x * 10 + y)⟩) (hL : l ∈ L) : ArgOk mem L (.lsl l 0 1) (.vsl 1 10 (Ex.mk op vn vd um uh ud nm cnt mode 1 (k1 a)).kc) :=
  argLsl (r := ⟨.own, false, 1, 10, _⟩) hr trivial hL (by simp) fun x hx y hy => ⟨by
    obtain rfl : x = 0 := by omega
    rcases c10 hy with rfl | rfl | rfl | rfl | rfl | rfl | rfl | rfl | rfl | rfl <;> rfl, tF_cl cX_cl (k1 a) x y⟩
theorem argK2 {mem : List Row} {L : List Nat} {l : Nat} {a b : Ex} {op vn vd um uh ud : Int} {nm : ByteArray} {cnt mode : Int} (hr : rowAt mem l = some ⟨.own, false, 2, 10, fun x y => nthP (cX a ++ cX b) (x * 10 + y)⟩) (hL : l ∈ L) : ArgOk mem L (.lsl l 0 2) (.vsl 2 10 (Ex.mk op vn vd um uh ud nm cnt mode 2 (k2 a b)).kc) :=
  argLsl (r := ⟨.own, false, 2, 10, _⟩) hr trivial hL (by simp) fun x hx y hy => ⟨by
    rcases (by omega : x = 0 ∨ x = 1) with rfl | rfl <;> rcases c10 hy with rfl | rfl | rfl | rfl | rfl | rfl | rfl | rfl | rfl | rfl <;> rfl, tF_cl cX_cl (k2 a b) x y⟩
theorem argK3 {mem : List Row} {L : List Nat} {l : Nat} {a b c : Ex} {op vn vd um uh ud : Int} {nm : ByteArray} {cnt mode : Int} (hr : rowAt mem l = some ⟨.own, false, 3, 10, fun x y => nthP (cX a ++ (cX b ++ cX c)) (x * 10 + y)⟩) (hL : l ∈ L) : ArgOk mem L (.lsl l 0 3) (.vsl 3 10 (Ex.mk op vn vd um uh ud nm cnt mode 3 (k3 a b c)).kc) :=
  argLsl (r := ⟨.own, false, 3, 10, _⟩) hr trivial hL (by simp) fun x hx y hy => ⟨by
    rcases (by omega : x = 0 ∨ x = 1 ∨ x = 2) with rfl | rfl | rfl <;> rcases c10 hy with rfl | rfl | rfl | rfl | rfl | rfl | rfl | rfl | rfl | rfl <;> rfl, tF_cl cX_cl (k3 a b c) x y⟩
theorem two_c (op : Int) (a b : Ex) : PureC G.P 24 [vi op, vX a, vX b] (fun r => r = vX (eOp op 2 (k2 a b))) := by
  refine pure_of (G := G.toPg) (fn := Tryz.f24) Tryz.func24 rfl rfl rfl ?_; intro Γ hk
  repeat' (first | refine yo ?_ ?_ | refine yw ?_ ?_ | refine yk ?_ ?_ | exact trivial | with_reducible refine wA ?_ ?_ | refine ys ?_ ?_ | refine xs_done ?_ | refine yl ?_ ?_ | refine w8 ?_ | refine w9 ?_ | refine w1 ?_ | refine w2 ?_ | refine w3 ?_ | refine w4 ?_ | refine w5 ?_ | refine w6 ?_ | refine w7 ?_ | refine yo0 ?_ ?_ | refine yw0 ?_ ?_ | exact qq | fail)
  refine xdone ?_
  exact kret [3] rfl ⟨Nat.zero_lt_one, trivial⟩ (qs := [vX (eOp op 2 (k2 a b))]) ⟨argEx (argK2 rfl (List.Mem.head _)), trivial⟩ rfl
theorem split10 {x : Int} (h0 : 0 ≤ x) (h1 : x < 10 ∨ x = 0) : x = 0 ∨ x = 1 ∨ x = 2 ∨ x = 3 ∨ x = 4 ∨ x = 5 ∨ x = 6 ∨ x = 7 ∨ x = 8 ∨ x = 9 := by omega
theorem decimal_t : TapC G.P 16 [] (fun r => ∃ x : Int × Int, r = vr x.1 x.2 ∧ x ∈ decL) := by
  intro n g at_ hn h1 h2
  refine ptr_of (G := G.toPg) (fn := Tryz.f16) Tryz.func16 rfl rfl rfl ?_; intro Γ hk
  repeat' (first | refine yo ?_ ?_ | refine yw ?_ ?_ | refine yk ?_ ?_ | exact trivial | with_reducible refine wA ?_ ?_ | refine ys ?_ ?_ | refine xs_done ?_ | refine yl ?_ ?_ | (refine tn1 hn ?_; rintro at_ b1 b2 x hx1 hx2) | refine w8 ?_ | refine w9 ?_ | refine w1 ?_ | refine w2 ?_ | refine w3 ?_ | refine w4 ?_ | refine w5 ?_ | refine w6 ?_ | refine w7 ?_ | refine yo0 ?_ ?_ | refine yw0 ?_ ?_ | exact qq | fail)
  rcases split10 hx1 hx2 with rfl | rfl | rfl | rfl | rfl | rfl | rfl | rfl | rfl | rfl
  all_goals
    repeat' (first | refine yo ?_ ?_ | refine yw ?_ ?_ | refine yk ?_ ?_ | exact trivial | with_reducible refine wA ?_ ?_ | refine ys ?_ ?_ | refine xs_done ?_ | refine yl ?_ ?_ | refine w8 ?_ | refine w9 ?_ | refine w1 ?_ | refine w2 ?_ | refine w3 ?_ | refine w4 ?_ | refine w5 ?_ | refine w6 ?_ | refine w7 ?_ | refine yo0 ?_ ?_ | refine yw0 ?_ ?_ | exact qq | fail)
    refine xdone ?_
  · exact ktap rfl b1 b2 rfl ⟨Nat.zero_lt_one, trivial⟩ rfl ⟨(1, 1), rfl, by simp [decL]⟩
  · exact ktap rfl b1 b2 rfl ⟨Nat.zero_lt_one, trivial⟩ rfl ⟨(2, 1), rfl, by simp [decL]⟩
  · exact ktap rfl b1 b2 rfl ⟨Nat.zero_lt_one, trivial⟩ rfl ⟨(0, 1), rfl, by simp [decL]⟩
  · exact ktap rfl b1 b2 rfl ⟨Nat.zero_lt_one, trivial⟩ rfl ⟨(5, 2), rfl, by simp [decL]⟩
  · exact ktap rfl b1 b2 rfl ⟨Nat.zero_lt_one, trivial⟩ rfl ⟨(1, 4), rfl, by simp [decL]⟩
  · exact ktap rfl b1 b2 rfl ⟨Nat.zero_lt_one, trivial⟩ rfl ⟨(76, 5), rfl, by simp [decL]⟩
  · exact ktap rfl b1 b2 rfl ⟨Nat.zero_lt_one, trivial⟩ rfl ⟨(40, 1), rfl, by simp [decL]⟩
  · exact ktap rfl b1 b2 rfl ⟨Nat.zero_lt_one, trivial⟩ rfl ⟨(1, 100), rfl, by simp [decL]⟩
  · exact ktap rfl b1 b2 rfl ⟨Nat.zero_lt_one, trivial⟩ rfl ⟨(3, 1), rfl, by simp [decL]⟩
  · exact ktap rfl b1 b2 rfl ⟨Nat.zero_lt_one, trivial⟩ rfl ⟨(100, 1), rfl, by simp [decL]⟩
set_option maxHeartbeats 4000000 in
theorem leaf_number_t (rules : Int) : TapC G.P 18 [vT t0, vi rules] (fun r => ∃ e, r = vX e ∧ EOk 1 t0 e) := by
  intro n g at_ hn h1 h2
  refine ptr_of (G := G.toPg) (fn := Tryz.f18) Tryz.func18 rfl rfl rfl ?_; intro Γ hk
  repeat' (first | refine yo ?_ ?_ | refine yw ?_ ?_ | refine yk ?_ ?_ | exact trivial | with_reducible refine wA ?_ ?_ | refine ys ?_ ?_ | refine xs_done ?_ | refine yl ?_ ?_ | refine xs_start (id := 28) true [.take 0, .take 2, .take 3, .one 1, .take 4, .one 5] 0 rfl rfl (by kernel_rfl) ?_ | (refine pop_opt 88 rfl rfl ?_) | (refine pop_unguard rfl rfl ?_) | (refine pop_gfalse rfl rfl rfl rfl ?_) | (refine tn1 hn ?_; rintro at_ b1 b2 x hx1 hx2) | (refine pop_tapl (G := G) rfl rfl rfl rfl rfl rfl rfl rfl rfl rfl rfl (by omega) rfl (fun _ => rfl) rfl (pick_t _ _ rfl (by decide) (by decide)) hn (by assumption) (by assumption) ?_; rintro at_ _ b1 b2 ⟨x, rfl, hx⟩; simp only [unL, List.mem_cons, List.not_mem_nil, or_false] at hx) | (refine xs_one (ch := [_]) rfl rfl rfl (pz decimal_t hn ?_); rintro at_ _ b1 b2 ⟨dx, rfl, hdx⟩) | refine z1 number_c ?_ | refine z2 number_c ?_ | refine z3 number_c ?_ | refine z4 number_c ?_ | refine z5 number_c ?_ | refine z1 money_c ?_ | refine z2 money_c ?_ | refine z3 money_c ?_ | refine z4 money_c ?_ | refine z5 money_c ?_ | refine z1 hours_c ?_ | refine z2 hours_c ?_ | refine z3 hours_c ?_ | refine z4 hours_c ?_ | refine z5 hours_c ?_ | refine z1 rate_c ?_ | refine z2 rate_c ?_ | refine z3 rate_c ?_ | refine z4 rate_c ?_ | refine z5 rate_c ?_ | refine z1 truth_c ?_ | refine z2 truth_c ?_ | refine z3 truth_c ?_ | refine z4 truth_c ?_ | refine z5 truth_c ?_ | refine w8 ?_ | refine w9 ?_ | refine w1 ?_ | refine w2 ?_ | refine w3 ?_ | refine w4 ?_ | refine w5 ?_ | refine w6 ?_ | refine w7 ?_ | refine yo0 ?_ ?_ | refine yw0 ?_ ?_ | (refine pcond rfl ?_ ?_ <;> intro hc) | exact qq | fail)
  all_goals first
    | (refine xdone ?_; refine ktapL [] (qs := [vX (.mk _ _ _ _ _ _ _ _ _ 0 kn)]) rfl b1 b2 (by simp) rfl ⟨Nat.zero_lt_one, trivial⟩ ⟨argEx argNil, trivial⟩ ⟨_, rfl, ?_⟩; first | exact ok_name (by decide +kernel) (by decide) (fun N S P hE => hE.g) | exact ok_name (by decide +kernel) (by decide) (fun N S P hE => hE.r4) | exact ok_num hdx (by decide))
    | skip
  all_goals rcases (by omega : x = 0 ∨ x = 1) with rfl | rfl
  all_goals first
    | (exfalso; omega)
    | skip
  all_goals
    repeat' (first | refine yo ?_ ?_ | refine yw ?_ ?_ | refine yk ?_ ?_ | exact trivial | with_reducible refine wA ?_ ?_ | refine ys ?_ ?_ | refine xs_done ?_ | refine yl ?_ ?_ | refine w8 ?_ | refine w9 ?_ | refine w1 ?_ | refine w2 ?_ | refine w3 ?_ | refine w4 ?_ | refine w5 ?_ | refine w6 ?_ | refine w7 ?_ | refine yo0 ?_ ?_ | refine yw0 ?_ ?_ | exact qq | fail)
    refine xdone ?_; refine ktapL [] (qs := [vX (.mk _ _ _ _ _ _ _ _ _ 0 kn)]) rfl b1 b2 (by simp) rfl ⟨Nat.zero_lt_one, trivial⟩ ⟨argEx argNil, trivial⟩ ⟨_, rfl, ?_⟩; first | exact ok_name (by decide +kernel) (by decide) (fun N S P hE => hE.g) | exact ok_name (by decide +kernel) (by decide) (fun N S P hE => hE.r4) | exact ok_num hdx (by decide)
set_option maxHeartbeats 4000000 in
theorem leaf_money_t (rules : Int) : TapC G.P 18 [vT tM, vi rules] (fun r => ∃ e, r = vX e ∧ EOk 1 tM e) := by
  intro n g at_ hn h1 h2
  refine ptr_of (G := G.toPg) (fn := Tryz.f18) Tryz.func18 rfl rfl rfl ?_; intro Γ hk
  repeat' (first | refine yo ?_ ?_ | refine yw ?_ ?_ | refine yk ?_ ?_ | exact trivial | with_reducible refine wA ?_ ?_ | refine ys ?_ ?_ | refine xs_done ?_ | refine yl ?_ ?_ | refine xs_start (id := 28) true [.take 0, .take 2, .take 3, .one 1, .take 4, .one 5] 0 rfl rfl (by kernel_rfl) ?_ | (refine pop_opt 88 rfl rfl ?_) | (refine pop_unguard rfl rfl ?_) | (refine pop_gfalse rfl rfl rfl rfl ?_) | (refine tn1 hn ?_; rintro at_ b1 b2 x hx1 hx2) | (refine pop_tapl (G := G) rfl rfl rfl rfl rfl rfl rfl rfl rfl rfl rfl (by omega) rfl (fun _ => rfl) rfl (pick_t _ _ rfl (by decide) (by decide)) hn (by assumption) (by assumption) ?_; rintro at_ _ b1 b2 ⟨x, rfl, hx⟩; simp only [unL, List.mem_cons, List.not_mem_nil, or_false] at hx) | (refine xs_one (ch := [_]) rfl rfl rfl (pz decimal_t hn ?_); rintro at_ _ b1 b2 ⟨dx, rfl, hdx⟩) | refine z1 number_c ?_ | refine z2 number_c ?_ | refine z3 number_c ?_ | refine z4 number_c ?_ | refine z5 number_c ?_ | refine z1 money_c ?_ | refine z2 money_c ?_ | refine z3 money_c ?_ | refine z4 money_c ?_ | refine z5 money_c ?_ | refine z1 hours_c ?_ | refine z2 hours_c ?_ | refine z3 hours_c ?_ | refine z4 hours_c ?_ | refine z5 hours_c ?_ | refine z1 rate_c ?_ | refine z2 rate_c ?_ | refine z3 rate_c ?_ | refine z4 rate_c ?_ | refine z5 rate_c ?_ | refine z1 truth_c ?_ | refine z2 truth_c ?_ | refine z3 truth_c ?_ | refine z4 truth_c ?_ | refine z5 truth_c ?_ | refine w8 ?_ | refine w9 ?_ | refine w1 ?_ | refine w2 ?_ | refine w3 ?_ | refine w4 ?_ | refine w5 ?_ | refine w6 ?_ | refine w7 ?_ | refine yo0 ?_ ?_ | refine yw0 ?_ ?_ | (refine pcond rfl ?_ ?_ <;> intro hc) | exact qq | fail)
  all_goals first
    | (refine xdone ?_; refine ktapL [] (qs := [vX (.mk _ _ _ _ _ _ _ _ _ 0 kn)]) rfl b1 b2 (by simp) rfl ⟨Nat.zero_lt_one, trivial⟩ ⟨argEx argNil, trivial⟩ ⟨_, rfl, ?_⟩; first | exact ok_name (by decide +kernel) (by decide) (fun N S P hE => hE.r2) | exact ok_name (by decide +kernel) (by decide) (fun N S P hE => hE.a) | exact ok_num hdx (by decide) | exact ok_past (by assumption) (by decide +kernel) (by decide) (by rw [w64 (by omega) (by omega)]; omega) (fun N S P hE => hE.gross))
    | skip
  all_goals rcases (by omega : x = 0 ∨ x = 1) with rfl | rfl
  all_goals first
    | (exfalso; omega)
    | skip
  all_goals
    repeat' (first | refine yo ?_ ?_ | refine yw ?_ ?_ | refine yk ?_ ?_ | exact trivial | with_reducible refine wA ?_ ?_ | refine ys ?_ ?_ | refine xs_done ?_ | refine yl ?_ ?_ | refine w8 ?_ | refine w9 ?_ | refine w1 ?_ | refine w2 ?_ | refine w3 ?_ | refine w4 ?_ | refine w5 ?_ | refine w6 ?_ | refine w7 ?_ | refine yo0 ?_ ?_ | refine yw0 ?_ ?_ | exact qq | fail)
    refine xdone ?_; refine ktapL [] (qs := [vX (.mk _ _ _ _ _ _ _ _ _ 0 kn)]) rfl b1 b2 (by simp) rfl ⟨Nat.zero_lt_one, trivial⟩ ⟨argEx argNil, trivial⟩ ⟨_, rfl, ?_⟩; first | exact ok_name (by decide +kernel) (by decide) (fun N S P hE => hE.r2) | exact ok_name (by decide +kernel) (by decide) (fun N S P hE => hE.a) | exact ok_num hdx (by decide) | exact ok_past (by assumption) (by decide +kernel) (by decide) (by rw [w64 (by omega) (by omega)]; omega) (fun N S P hE => hE.gross)
set_option maxHeartbeats 4000000 in
theorem leaf_hours_t (rules : Int) : TapC G.P 18 [vT tH, vi rules] (fun r => ∃ e, r = vX e ∧ EOk 1 tH e) := by
  intro n g at_ hn h1 h2
  refine ptr_of (G := G.toPg) (fn := Tryz.f18) Tryz.func18 rfl rfl rfl ?_; intro Γ hk
  repeat' (first | refine yo ?_ ?_ | refine yw ?_ ?_ | refine yk ?_ ?_ | exact trivial | with_reducible refine wA ?_ ?_ | refine ys ?_ ?_ | refine xs_done ?_ | refine yl ?_ ?_ | refine xs_start (id := 28) true [.take 0, .take 2, .take 3, .one 1, .take 4, .one 5] 0 rfl rfl (by kernel_rfl) ?_ | (refine pop_opt 88 rfl rfl ?_) | (refine pop_unguard rfl rfl ?_) | (refine pop_gfalse rfl rfl rfl rfl ?_) | (refine tn1 hn ?_; rintro at_ b1 b2 x hx1 hx2) | (refine pop_tapl (G := G) rfl rfl rfl rfl rfl rfl rfl rfl rfl rfl rfl (by omega) rfl (fun _ => rfl) rfl (pick_t _ _ rfl (by decide) (by decide)) hn (by assumption) (by assumption) ?_; rintro at_ _ b1 b2 ⟨x, rfl, hx⟩; simp only [unL, List.mem_cons, List.not_mem_nil, or_false] at hx) | (refine xs_one (ch := [_]) rfl rfl rfl (pz decimal_t hn ?_); rintro at_ _ b1 b2 ⟨dx, rfl, hdx⟩) | refine z1 number_c ?_ | refine z2 number_c ?_ | refine z3 number_c ?_ | refine z4 number_c ?_ | refine z5 number_c ?_ | refine z1 money_c ?_ | refine z2 money_c ?_ | refine z3 money_c ?_ | refine z4 money_c ?_ | refine z5 money_c ?_ | refine z1 hours_c ?_ | refine z2 hours_c ?_ | refine z3 hours_c ?_ | refine z4 hours_c ?_ | refine z5 hours_c ?_ | refine z1 rate_c ?_ | refine z2 rate_c ?_ | refine z3 rate_c ?_ | refine z4 rate_c ?_ | refine z5 rate_c ?_ | refine z1 truth_c ?_ | refine z2 truth_c ?_ | refine z3 truth_c ?_ | refine z4 truth_c ?_ | refine z5 truth_c ?_ | refine w8 ?_ | refine w9 ?_ | refine w1 ?_ | refine w2 ?_ | refine w3 ?_ | refine w4 ?_ | refine w5 ?_ | refine w6 ?_ | refine w7 ?_ | refine yo0 ?_ ?_ | refine yw0 ?_ ?_ | (refine pcond rfl ?_ ?_ <;> intro hc) | exact qq | fail)
  all_goals first
    | (refine xdone ?_; refine ktapL [] (qs := [vX (.mk _ _ _ _ _ _ _ _ _ 0 kn)]) rfl b1 b2 (by simp) rfl ⟨Nat.zero_lt_one, trivial⟩ ⟨argEx argNil, trivial⟩ ⟨_, rfl, ?_⟩; first | exact ok_name (by decide +kernel) (by decide) (fun N S P hE => hE.h) | exact ok_num hdx (by decide) | exact ok_past (by assumption) (by decide +kernel) (by decide) (by rw [w64 (by omega) (by omega)]; omega) (fun N S P hE => hE.time))
    | skip
  all_goals rcases (by omega : x = 0 ∨ x = 1) with rfl | rfl
  all_goals first
    | (exfalso; omega)
    | skip
  all_goals
    repeat' (first | refine yo ?_ ?_ | refine yw ?_ ?_ | refine yk ?_ ?_ | exact trivial | with_reducible refine wA ?_ ?_ | refine ys ?_ ?_ | refine xs_done ?_ | refine yl ?_ ?_ | refine w8 ?_ | refine w9 ?_ | refine w1 ?_ | refine w2 ?_ | refine w3 ?_ | refine w4 ?_ | refine w5 ?_ | refine w6 ?_ | refine w7 ?_ | refine yo0 ?_ ?_ | refine yw0 ?_ ?_ | exact qq | fail)
    refine xdone ?_; refine ktapL [] (qs := [vX (.mk _ _ _ _ _ _ _ _ _ 0 kn)]) rfl b1 b2 (by simp) rfl ⟨Nat.zero_lt_one, trivial⟩ ⟨argEx argNil, trivial⟩ ⟨_, rfl, ?_⟩; first | exact ok_name (by decide +kernel) (by decide) (fun N S P hE => hE.h) | exact ok_num hdx (by decide) | exact ok_past (by assumption) (by decide +kernel) (by decide) (by rw [w64 (by omega) (by omega)]; omega) (fun N S P hE => hE.time)
set_option maxHeartbeats 4000000 in
theorem leaf_rate_t (rules : Int) : TapC G.P 18 [vT tR, vi rules] (fun r => ∃ e, r = vX e ∧ EOk 1 tR e) := by
  intro n g at_ hn h1 h2
  refine ptr_of (G := G.toPg) (fn := Tryz.f18) Tryz.func18 rfl rfl rfl ?_; intro Γ hk
  repeat' (first | refine yo ?_ ?_ | refine yw ?_ ?_ | refine yk ?_ ?_ | exact trivial | with_reducible refine wA ?_ ?_ | refine ys ?_ ?_ | refine xs_done ?_ | refine yl ?_ ?_ | refine xs_start (id := 28) true [.take 0, .take 2, .take 3, .one 1, .take 4, .one 5] 0 rfl rfl (by kernel_rfl) ?_ | (refine pop_opt 88 rfl rfl ?_) | (refine pop_unguard rfl rfl ?_) | (refine pop_gfalse rfl rfl rfl rfl ?_) | (refine tn1 hn ?_; rintro at_ b1 b2 x hx1 hx2) | (refine pop_tapl (G := G) rfl rfl rfl rfl rfl rfl rfl rfl rfl rfl rfl (by omega) rfl (fun _ => rfl) rfl (pick_t _ _ rfl (by decide) (by decide)) hn (by assumption) (by assumption) ?_; rintro at_ _ b1 b2 ⟨x, rfl, hx⟩; simp only [unL, List.mem_cons, List.not_mem_nil, or_false] at hx) | (refine xs_one (ch := [_]) rfl rfl rfl (pz decimal_t hn ?_); rintro at_ _ b1 b2 ⟨dx, rfl, hdx⟩) | refine z1 number_c ?_ | refine z2 number_c ?_ | refine z3 number_c ?_ | refine z4 number_c ?_ | refine z5 number_c ?_ | refine z1 money_c ?_ | refine z2 money_c ?_ | refine z3 money_c ?_ | refine z4 money_c ?_ | refine z5 money_c ?_ | refine z1 hours_c ?_ | refine z2 hours_c ?_ | refine z3 hours_c ?_ | refine z4 hours_c ?_ | refine z5 hours_c ?_ | refine z1 rate_c ?_ | refine z2 rate_c ?_ | refine z3 rate_c ?_ | refine z4 rate_c ?_ | refine z5 rate_c ?_ | refine z1 truth_c ?_ | refine z2 truth_c ?_ | refine z3 truth_c ?_ | refine z4 truth_c ?_ | refine z5 truth_c ?_ | refine w8 ?_ | refine w9 ?_ | refine w1 ?_ | refine w2 ?_ | refine w3 ?_ | refine w4 ?_ | refine w5 ?_ | refine w6 ?_ | refine w7 ?_ | refine yo0 ?_ ?_ | refine yw0 ?_ ?_ | (refine pcond rfl ?_ ?_ <;> intro hc) | exact qq | fail)
  all_goals first
    | (refine xdone ?_; refine ktapL [] (qs := [vX (.mk _ _ _ _ _ _ _ _ _ 0 kn)]) rfl b1 b2 (by simp) rfl ⟨Nat.zero_lt_one, trivial⟩ ⟨argEx argNil, trivial⟩ ⟨_, rfl, ?_⟩; first | exact ok_name (by decide +kernel) (by decide) (fun N S P hE => hE.r1) | exact ok_num hdx (by decide))
    | skip
  all_goals rcases (by omega : x = 0 ∨ x = 1) with rfl | rfl
  all_goals first
    | (exfalso; omega)
    | skip
  all_goals
    repeat' (first | refine yo ?_ ?_ | refine yw ?_ ?_ | refine yk ?_ ?_ | exact trivial | with_reducible refine wA ?_ ?_ | refine ys ?_ ?_ | refine xs_done ?_ | refine yl ?_ ?_ | refine w8 ?_ | refine w9 ?_ | refine w1 ?_ | refine w2 ?_ | refine w3 ?_ | refine w4 ?_ | refine w5 ?_ | refine w6 ?_ | refine w7 ?_ | refine yo0 ?_ ?_ | refine yw0 ?_ ?_ | exact qq | fail)
    refine xdone ?_; refine ktapL [] (qs := [vX (.mk _ _ _ _ _ _ _ _ _ 0 kn)]) rfl b1 b2 (by simp) rfl ⟨Nat.zero_lt_one, trivial⟩ ⟨argEx argNil, trivial⟩ ⟨_, rfl, ?_⟩; first | exact ok_name (by decide +kernel) (by decide) (fun N S P hE => hE.r1) | exact ok_num hdx (by decide)
set_option maxHeartbeats 4000000 in
theorem leaf_truth_t (rules : Int) : TapC G.P 18 [vT tB, vi rules] (fun r => ∃ e, r = vX e ∧ EOk 1 tB e) := by
  intro n g at_ hn h1 h2
  refine ptr_of (G := G.toPg) (fn := Tryz.f18) Tryz.func18 rfl rfl rfl ?_; intro Γ hk
  repeat' (first | refine yo ?_ ?_ | refine yw ?_ ?_ | refine yk ?_ ?_ | exact trivial | with_reducible refine wA ?_ ?_ | refine ys ?_ ?_ | refine xs_done ?_ | refine yl ?_ ?_ | refine xs_start (id := 28) true [.take 0, .take 2, .take 3, .one 1, .take 4, .one 5] 0 rfl rfl (by kernel_rfl) ?_ | (refine pop_opt 88 rfl rfl ?_) | (refine pop_unguard rfl rfl ?_) | (refine pop_gfalse rfl rfl rfl rfl ?_) | (refine tn1 hn ?_; rintro at_ b1 b2 x hx1 hx2) | (refine pop_tapl (G := G) rfl rfl rfl rfl rfl rfl rfl rfl rfl rfl rfl (by omega) rfl (fun _ => rfl) rfl (pick_t _ _ rfl (by decide) (by decide)) hn (by assumption) (by assumption) ?_; rintro at_ _ b1 b2 ⟨x, rfl, hx⟩; simp only [unL, List.mem_cons, List.not_mem_nil, or_false] at hx) | (refine xs_one (ch := [_]) rfl rfl rfl (pz decimal_t hn ?_); rintro at_ _ b1 b2 ⟨dx, rfl, hdx⟩) | refine z1 number_c ?_ | refine z2 number_c ?_ | refine z3 number_c ?_ | refine z4 number_c ?_ | refine z5 number_c ?_ | refine z1 money_c ?_ | refine z2 money_c ?_ | refine z3 money_c ?_ | refine z4 money_c ?_ | refine z5 money_c ?_ | refine z1 hours_c ?_ | refine z2 hours_c ?_ | refine z3 hours_c ?_ | refine z4 hours_c ?_ | refine z5 hours_c ?_ | refine z1 rate_c ?_ | refine z2 rate_c ?_ | refine z3 rate_c ?_ | refine z4 rate_c ?_ | refine z5 rate_c ?_ | refine z1 truth_c ?_ | refine z2 truth_c ?_ | refine z3 truth_c ?_ | refine z4 truth_c ?_ | refine z5 truth_c ?_ | refine w8 ?_ | refine w9 ?_ | refine w1 ?_ | refine w2 ?_ | refine w3 ?_ | refine w4 ?_ | refine w5 ?_ | refine w6 ?_ | refine w7 ?_ | refine yo0 ?_ ?_ | refine yw0 ?_ ?_ | (refine pcond rfl ?_ ?_ <;> intro hc) | exact qq | fail)
  all_goals first
    | (refine xdone ?_; refine ktapL [] (qs := [vX (.mk _ _ _ _ _ _ _ _ _ 0 kn)]) rfl b1 b2 (by simp) rfl ⟨Nat.zero_lt_one, trivial⟩ ⟨argEx argNil, trivial⟩ ⟨_, rfl, ?_⟩; first | exact ok_name (by decide +kernel) (by decide) (fun N S P hE => hE.f) | exact ok_name (by decide +kernel) (by decide) (fun N S P hE => hE.r3) | exact ok_truth (by omega))
    | skip
  all_goals rcases (by omega : x = 0 ∨ x = 1) with rfl | rfl
  all_goals first
    | (exfalso; omega)
    | skip
  all_goals
    repeat' (first | refine yo ?_ ?_ | refine yw ?_ ?_ | refine yk ?_ ?_ | exact trivial | with_reducible refine wA ?_ ?_ | refine ys ?_ ?_ | refine xs_done ?_ | refine yl ?_ ?_ | refine w8 ?_ | refine w9 ?_ | refine w1 ?_ | refine w2 ?_ | refine w3 ?_ | refine w4 ?_ | refine w5 ?_ | refine w6 ?_ | refine w7 ?_ | refine yo0 ?_ ?_ | refine yw0 ?_ ?_ | exact qq | fail)
    refine xdone ?_; refine ktapL [] (qs := [vX (.mk _ _ _ _ _ _ _ _ _ 0 kn)]) rfl b1 b2 (by simp) rfl ⟨Nat.zero_lt_one, trivial⟩ ⟨argEx argNil, trivial⟩ ⟨_, rfl, ?_⟩; first | exact ok_name (by decide +kernel) (by decide) (fun N S P hE => hE.f) | exact ok_name (by decide +kernel) (by decide) (fun N S P hE => hE.r3) | exact ok_truth (by omega)
end Go.Proofs.YtdifpajpheemaaaGreatDoor
namespace Go.Proofs.YtdifpajpheemaaaGreatDoor
theorem type_t : TapC G.P 7 [] (fun r => ∃ t, r = vT t ∧ (t = t0 ∨ t = tM ∨ t = tH ∨ t = tR ∨ t = tB)) := by
  have c1 := number_c
  have c2 := money_c
  have c3 := hours_c
  have c4 := rate_c
  have c5 := truth_c
  intro n g at_ hn h1 h2
  refine ptr_of (G := G.toPg) (fn := Tryz.f7) Tryz.func7 rfl rfl rfl ?_; intro Γ hk
  repeat' (first | refine yo ?_ ?_ | refine yw ?_ ?_ | refine yk ?_ ?_ | exact trivial | with_reducible refine wA ?_ ?_ | refine ys ?_ ?_ | refine xs_done ?_ | refine yl ?_ ?_ | (refine tn1 hn ?_; rintro at_ b1 b2 x hx1 hx2) | (refine tn2 hn ?_; rintro at_ b1 b2 x hx1 hx2) | refine z1 c1 ?_ | refine z2 c1 ?_ | refine z3 c1 ?_ | refine z4 c1 ?_ | refine z5 c1 ?_ | refine z1 c2 ?_ | refine z2 c2 ?_ | refine z3 c2 ?_ | refine z4 c2 ?_ | refine z5 c2 ?_ | refine z1 c3 ?_ | refine z2 c3 ?_ | refine z3 c3 ?_ | refine z4 c3 ?_ | refine z5 c3 ?_ | refine z1 c4 ?_ | refine z2 c4 ?_ | refine z3 c4 ?_ | refine z4 c4 ?_ | refine z5 c4 ?_ | refine z1 c5 ?_ | refine z2 c5 ?_ | refine z3 c5 ?_ | refine z4 c5 ?_ | refine z5 c5 ?_ | refine w8 ?_ | refine w9 ?_ | refine w1 ?_ | refine w2 ?_ | refine w3 ?_ | refine w4 ?_ | refine w5 ?_ | refine w6 ?_ | refine w7 ?_ | refine yo0 ?_ ?_ | refine yw0 ?_ ?_ | exact qq | fail)
  rcases (by omega : x = 0 ∨ x = 1 ∨ x = 2 ∨ x = 3 ∨ x = 4) with rfl | rfl | rfl | rfl | rfl
  all_goals
    repeat' (first | refine yo ?_ ?_ | refine yw ?_ ?_ | refine yk ?_ ?_ | exact trivial | with_reducible refine wA ?_ ?_ | refine ys ?_ ?_ | refine xs_done ?_ | refine yl ?_ ?_ | refine w8 ?_ | refine w9 ?_ | refine w1 ?_ | refine w2 ?_ | refine w3 ?_ | refine w4 ?_ | refine w5 ?_ | refine w6 ?_ | refine w7 ?_ | refine yo0 ?_ ?_ | refine yw0 ?_ ?_ | exact qq | fail)
    refine xdone ?_
  · exact ktap rfl b1 b2 rfl ⟨Nat.zero_lt_one, trivial⟩ rfl ⟨t0, rfl, by simp⟩
  · exact ktap rfl b1 b2 rfl ⟨Nat.zero_lt_one, trivial⟩ rfl ⟨tM, rfl, by simp⟩
  · exact ktap rfl b1 b2 rfl ⟨Nat.zero_lt_one, trivial⟩ rfl ⟨tH, rfl, by simp⟩
  · exact ktap rfl b1 b2 rfl ⟨Nat.zero_lt_one, trivial⟩ rfl ⟨tR, rfl, by simp⟩
  · exact ktap rfl b1 b2 rfl ⟨Nat.zero_lt_one, trivial⟩ rfl ⟨tB, rfl, by simp⟩
end Go.Proofs.YtdifpajpheemaaaGreatDoor
namespace Go.Proofs.YtdifpajpheemaaaGreatDoor
def tys5 : List Ty := [t0, tM, tH, tR, tB]
def XT (h : Nat) : Prop := ∀ t, t ∈ tys5 → ∀ rules : Int, TapC G.P 6 [vT t, vi h, vi rules] (fun r => ∃ e, r = vX e ∧ EOk (max h 1) t e)
theorem pread_aggs {tab : List TI} {st : PSt} {t : Nat} {x : Operand} {l i n sz m : Nat} {one : Bool} {f : Nat → Nat → PV} {q : List PV} (hx : st.ev x = .ptr l i 0) (hr : rowAt st.mem l = some ⟨.own, one, n, sz, f⟩) (hk : (tget tab t).k.isAgg = true) (hm : (tget tab t).sz = m) (hs : Nat.ble (0 + m) sz = true) (hq : q.length = m) (hf : ∀ j, j < m → f i j = nthP q j) : pread tab st (.load t x) = some (.agg m (nthP q), i < n) := by
  have e : (List.range' 0 m).map (fun y => f i (0 + y)) = q := by
    apply List.ext_getElem
    · simp [hq]
    · intro k h1 h2
      simp at h1
      simp only [List.getElem_map, List.getElem_range']
      rw [show 0 + (0 + 1 * k) = k by omega, hf k h1]
      have : ∀ (L : List PV) (k : Nat) (h : k < L.length), nthP L k = L[k] := by
        intro L
        induction L with
        | nil => intro k h; simp at h
        | cons y L ih =>
          intro k h
          cases k with
          | zero => rfl
          | succ k => simp only [nthP, List.getElem_cons_succ]; exact ih k (by simpa using h)
      exact this q k h2
  simp only [pread, hx, str, hr, Row.ok, pload, hk, hm, hs, forceL_eq, rmap, strP, cond_true, e]
def s4 (x : Nat) : Ty := if x = 0 then t0 else if x = 1 then tM else if x = 2 then tH else tR
theorem s4_mem (x : Nat) : s4 x ∈ tys5 ∧ (s4 x).b = false := by
  unfold s4
  split
  · exact ⟨by simp [tys5], rfl⟩
  · split
    · exact ⟨by simp [tys5], rfl⟩
    · split
      · exact ⟨by simp [tys5], rfl⟩
      · exact ⟨by simp [tys5], rfl⟩
theorem s4_or (x : Nat) : s4 x = t0 ∨ s4 x = tM ∨ s4 x = tH ∨ s4 x = tR := by
  unfold s4
  split
  · exact .inl rfl
  · split
    · exact .inr (.inl rfl)
    · split
      · exact .inr (.inr (.inl rfl))
      · exact .inr (.inr (.inr rfl))
theorem s4_row {x : Int} (h1 : 0 ≤ x) (h2 : x < 4 ∨ x = 0) (j : Nat) (hj : j < 4) : nthP [vb t0.b, vi t0.m, vi t0.h, vi t0.d, vb tM.b, vi tM.m, vi tM.h, vi tM.d, vb tH.b, vi tH.m, vi tH.h, vi tH.d, vb tR.b, vi tR.m, vi tR.h, vi tR.d] ((0 + x.toNat) * 4 + j) = nthP (cT (s4 x.toNat)) j := by
  rcases (by omega : x = 0 ∨ x = 1 ∨ x = 2 ∨ x = 3) with rfl | rfl | rfl | rfl <;> rcases (by omega : j = 0 ∨ j = 1 ∨ j = 2 ∨ j = 3) with rfl | rfl | rfl | rfl <;> rfl
def r3 (x : Nat) : Int × Int := if x = 0 then (1, 1) else if x = 1 then (1, 100) else (1, 4)
theorem r3_mem (x : Nat) : r3 x ∈ [((1 : Int), (1 : Int)), (1, 100), (1, 4)] := by
  unfold r3
  split
  · simp
  · split <;> simp
theorem r3_row {x : Int} (h1 : 0 ≤ x) (h2 : x < 3 ∨ x = 0) (j : Nat) (hj : j < 2) : nthP [vi 1, vi 1, vi 1, vi 100, vi 1, vi 4] ((0 + x.toNat) * 2 + j) = nthP [vi (r3 x.toNat).1, vi (r3 x.toNat).2] j := by
  rcases (by omega : x = 0 ∨ x = 1 ∨ x = 2) with rfl | rfl | rfl <;> rcases (by omega : j = 0 ∨ j = 1) with rfl | rfl <;> rfl
theorem exq {P : Prop} (h : P := by
    intro n g at_ hn h1 h2
    refine ptr_of (G := G.toPg) (fn := Tryz.f6) Tryz.func6 rfl rfl rfl ?_; intro Γ hk
    repeat' (first | refine yo ?_ ?_ | refine yw ?_ ?_ | refine yk ?_ ?_ | exact trivial | with_reducible refine wA ?_ ?_ | refine ys ?_ ?_ | refine xs_done ?_ | refine yl ?_ ?_ | refine w8 ?_ | refine w9 ?_ | refine w1 ?_ | refine w2 ?_ | refine w3 ?_ | refine w4 ?_ | refine w5 ?_ | refine w6 ?_ | refine w7 ?_ | refine yo0 ?_ ?_ | refine yw0 ?_ ?_ | exact qq | fail)
    rw [hd]
    repeat' (first | refine yo ?_ ?_ | refine yw ?_ ?_ | refine yk ?_ ?_ | exact trivial | with_reducible refine wA ?_ ?_ | refine ys ?_ ?_ | refine xs_done ?_ | refine yl ?_ ?_ | (refine pop_opt 14 rfl rfl ?_) | (refine pop_unguard rfl rfl ?_) | (refine tn1 hn ?_; rintro at_ b1 b2 x hx1 hx2) | (refine t1 lf hn ?_; rintro at_ _ b1 b2 ⟨e, rfl, he⟩) | (refine t2 lf hn ?_; rintro at_ _ b1 b2 ⟨e, rfl, he⟩) | (refine t3 lf hn ?_; rintro at_ _ b1 b2 ⟨e, rfl, he⟩) | refine z1 number_c ?_ | refine z2 number_c ?_ | refine z3 number_c ?_ | refine z4 number_c ?_ | refine z5 number_c ?_ | refine z1 money_c ?_ | refine z2 money_c ?_ | refine z3 money_c ?_ | refine z4 money_c ?_ | refine z5 money_c ?_ | refine z1 hours_c ?_ | refine z2 hours_c ?_ | refine z3 hours_c ?_ | refine z4 hours_c ?_ | refine z5 hours_c ?_ | refine z1 rate_c ?_ | refine z2 rate_c ?_ | refine z3 rate_c ?_ | refine z4 rate_c ?_ | refine z5 rate_c ?_ | refine w8 ?_ | refine w9 ?_ | refine w1 ?_ | refine w2 ?_ | refine w3 ?_ | refine w4 ?_ | refine w5 ?_ | refine w6 ?_ | refine w7 ?_ | refine yo0 ?_ ?_ | refine yw0 ?_ ?_ | (refine pcond rfl ?_ ?_ <;> intro hc) | exact qq | fail)
    · refine xdone ?_
      exact ktap rfl b1 b2 rfl ⟨Nat.zero_lt_one, trivial⟩ rfl ⟨e, rfl, he.mono (by omega)⟩
    · refine xo 1 rfl (by exact ⟨⟨by omega, by omega⟩, trivial⟩) ?_
      refine pop_read rfl rfl rfl (pread_aggs (q := cT (s4 x.toNat)) rfl rfl rfl rfl rfl rfl (s4_row hx1 hx2)) (show 0 + x.toNat < 4 by omega) ?_
      have hσ1 := (s4_mem x.toNat).1
      have hσ3 := s4_or x.toNat
      generalize s4 x.toNat = σ at *
      have iσ := iH σ hσ1
      repeat' (first | refine yo ?_ ?_ | refine yw ?_ ?_ | refine yk ?_ ?_ | exact trivial | with_reducible refine wA ?_ ?_ | refine ys ?_ ?_ | refine xs_done ?_ | refine yl ?_ ?_ | refine xs_start (id := 6) true [.take 0, .take 2, .take 3, .take 5, .take 6, .take 7, .take 8, .take 10, .take 11, .take 12, .take 13, .one 1, .one 4, .one 9, .one 14, .one 15, .take 16, .one 17] 0 rfl rfl (by kernel_rfl) ?_ | refine xs_start (id := 11) true [.take 0, .take 3, .take 4, .take 5, .take 6, .take 8, .take 9, .take 10, .take 11, .one 1, .one 2, .one 7, .one 12, .one 13, .one 14] 0 rfl rfl (by kernel_rfl) ?_ | refine xs_start (id := 13) true [.take 0, .take 1, .take 2, .take 3, .take 5, .take 6, .take 7, .take 8, .one 4, .one 9, .one 10, .one 11] 0 rfl rfl (by kernel_rfl) ?_ | refine xs_start (id := 15) true [.take 0, .take 1, .take 2, .take 3, .take 5, .take 6, .take 7, .take 8, .one 4, .one 9, .one 10, .one 11] 0 rfl rfl (by kernel_rfl) ?_ | refine xs_start (id := 18) true [.take 0, .take 1, .take 2, .take 3, .take 5, .take 6, .take 7, .take 8, .one 4, .one 9, .one 10, .one 11] 0 rfl rfl (by kernel_rfl) ?_ | refine xs_start (id := 22) true [.take 0, .take 3, .take 4, .take 5, .take 6, .take 8, .take 9, .take 10, .take 11, .one 1, .one 2, .one 7, .one 12, .one 13, .one 14] 0 rfl rfl (by kernel_rfl) ?_ | refine xs_start (id := 24) true [.take 0, .take 3, .take 4, .take 5, .take 6, .take 8, .take 9, .take 10, .take 11, .one 1, .one 2, .one 7, .one 12, .one 13, .one 14] 0 rfl rfl (by kernel_rfl) ?_ | refine xs_start (id := 30) true [.take 0, .take 3, .take 4, .take 5, .take 6, .take 8, .take 10, .take 11, .one 1, .one 2, .one 7, .one 9, .one 12, .one 13, .one 14] 0 rfl rfl (by kernel_rfl) ?_ | refine xs_start (id := 41) true [.take 0, .take 1, .take 2, .take 3, .take 5, .take 6, .take 7, .take 8, .one 4, .one 9, .one 10, .one 11] 0 rfl rfl (by kernel_rfl) ?_ | (refine tn1 hn ?_; rintro at_ b1 b2 x hx1 hx2) | (refine t1 i1 hn ?_; rintro at_ _ b1 b2 ⟨e, rfl, he⟩) | (refine t2 i1 hn ?_; rintro at_ _ b1 b2 ⟨e, rfl, he⟩) | (refine t3 i1 hn ?_; rintro at_ _ b1 b2 ⟨e, rfl, he⟩) | (refine t1 i2 hn ?_; rintro at_ _ b1 b2 ⟨e, rfl, he⟩) | (refine t2 i2 hn ?_; rintro at_ _ b1 b2 ⟨e, rfl, he⟩) | (refine t3 i2 hn ?_; rintro at_ _ b1 b2 ⟨e, rfl, he⟩) | (refine t1 i3 hn ?_; rintro at_ _ b1 b2 ⟨e, rfl, he⟩) | (refine t2 i3 hn ?_; rintro at_ _ b1 b2 ⟨e, rfl, he⟩) | (refine t3 i3 hn ?_; rintro at_ _ b1 b2 ⟨e, rfl, he⟩) | (refine t1 i4 hn ?_; rintro at_ _ b1 b2 ⟨e, rfl, he⟩) | (refine t2 i4 hn ?_; rintro at_ _ b1 b2 ⟨e, rfl, he⟩) | (refine t3 i4 hn ?_; rintro at_ _ b1 b2 ⟨e, rfl, he⟩) | (refine t1 i5 hn ?_; rintro at_ _ b1 b2 ⟨e, rfl, he⟩) | (refine t2 i5 hn ?_; rintro at_ _ b1 b2 ⟨e, rfl, he⟩) | (refine t3 i5 hn ?_; rintro at_ _ b1 b2 ⟨e, rfl, he⟩) | (refine t1 i6 hn ?_; rintro at_ _ b1 b2 ⟨e, rfl, he⟩) | (refine t2 i6 hn ?_; rintro at_ _ b1 b2 ⟨e, rfl, he⟩) | (refine t3 i6 hn ?_; rintro at_ _ b1 b2 ⟨e, rfl, he⟩) | (refine t1 iσ hn ?_; rintro at_ _ b1 b2 ⟨e, rfl, he⟩) | (refine t2 iσ hn ?_; rintro at_ _ b1 b2 ⟨e, rfl, he⟩) | (refine t3 iσ hn ?_; rintro at_ _ b1 b2 ⟨e, rfl, he⟩) | (refine pop_callc [] rfl rfl rfl rfl rfl rfl (fun _ h => by cases h) (two_c _ _ _) (args_cl _ rfl) ?_; rintro _ rfl) | (refine xs_one (ch := []) rfl rfl rfl (pst_rowsc [] rfl rfl rfl rfl rfl rfl .nil (pure_rows (two_c _ _ _)) (by exact ⟨PEq.cl _ (clB_spec _ rfl), PEq.cl _ (clB_spec _ rfl), PEq.cl _ (clB_spec _ rfl), trivial⟩) ?_); rintro r rows ⟨rfl, rfl⟩; refine ⟨_, _, rfl, trivial, rfl, ?_⟩) | (refine xs_one (ch := [_]) rfl rfl rfl (pst_tapl (G := G) rfl rfl rfl rfl rfl rfl rfl rfl rfl rfl rfl (by omega) rfl (fun _ => rfl) rfl (pick_t _ _ rfl (by decide) (by decide)) hn (by assumption) (by assumption) ?_); rintro at_ _ b1 b2 ⟨x, rfl, hx⟩; simp only [unL, List.mem_cons, List.not_mem_nil, or_false] at hx) | refine z1 truth_c ?_ | refine z2 truth_c ?_ | refine z3 truth_c ?_ | refine z4 truth_c ?_ | refine z5 truth_c ?_ | refine z1 number_c ?_ | refine z2 number_c ?_ | refine z3 number_c ?_ | refine z4 number_c ?_ | refine z5 number_c ?_ | refine z1 money_c ?_ | refine z2 money_c ?_ | refine z3 money_c ?_ | refine z4 money_c ?_ | refine z5 money_c ?_ | refine z1 hours_c ?_ | refine z2 hours_c ?_ | refine z3 hours_c ?_ | refine z4 hours_c ?_ | refine z5 hours_c ?_ | refine z1 rate_c ?_ | refine z2 rate_c ?_ | refine z3 rate_c ?_ | refine z4 rate_c ?_ | refine z5 rate_c ?_ | refine w8 ?_ | refine w9 ?_ | refine w1 ?_ | refine w2 ?_ | refine w3 ?_ | refine w4 ?_ | refine w5 ?_ | refine w6 ?_ | refine w7 ?_ | refine yo0 ?_ ?_ | refine yw0 ?_ ?_ | (refine pcond rfl ?_ ?_ <;> intro hc) | exact qq | fail)
      all_goals first
        | (refine xdone ?_; refine ktapL [5] (qs := [vX (.mk _ _ _ _ _ _ _ _ _ 3 (k3 _ _ _))]) rfl b1 b2 (by simp) rfl ⟨Nat.zero_lt_one, trivial⟩ ⟨argEx (argK3 rfl (List.Mem.head _)), trivial⟩ ⟨_, rfl, ?_⟩; exact ok_if (by assumption) (by assumption) (by assumption))
        | (refine xdone ?_; refine ktapL [5] (qs := [vX (.mk _ _ _ _ _ _ _ _ _ 1 (k1 _))]) rfl b1 b2 (by simp) rfl ⟨Nat.zero_lt_one, trivial⟩ ⟨argEx (argK1 rfl (List.Mem.head _)), trivial⟩ ⟨_, rfl, ?_⟩; first | exact ok_one (.inl rfl) (by assumption) (fun _ _ _ => rfl) | exact ok_one (.inr rfl) (by assumption) (fun _ _ _ => rfl) | exact ok_scale (by decide +kernel) (by decide) (by assumption) (fun N S P hE => hE.s) | exact ok_scale (by decide +kernel) (by decide) (by assumption) (fun N S P hE => hE.w))
        | (refine xdone ?_; refine ktap rfl b1 b2 rfl ⟨Nat.zero_lt_one, trivial⟩ rfl ⟨eOp _ 2 (k2 _ _), rfl, ?_⟩; first | exact ok_two (by decide) (by assumption) (by assumption) (fun _ _ _ => rfl) | (rcases hx with rfl | rfl <;> exact ok_two (by decide) (by assumption) (by assumption) (fun _ _ _ => rfl)) | (rcases hσ3 with rfl | rfl | rfl | rfl <;> exact ok_two (by decide) (by assumption) (by assumption) (fun _ _ _ => rfl)) | (rcases hx with rfl | rfl | rfl <;> rcases hσ3 with rfl | rfl | rfl | rfl <;> exact ok_two (by decide) (by assumption) (by assumption) (fun _ _ _ => rfl)))
        | skip
      all_goals
        (refine any_start [1] 20 rfl ?_); (first | refine aT2 0 ?_ | (refine aC2 0 ?_ ?_; rotate_left)); (first | refine aT2 1 ?_ | (refine aC2 1 ?_ ?_; rotate_left)); (first | refine aT2 2 ?_ | (refine aC2 2 ?_ ?_; rotate_left)); (first | refine aT 4 ?_ | refine aT2 4 ?_ | (refine aC 4 ?_ ?_; rotate_left)); (first | refine aT 8 ?_ | refine aT2 8 ?_ | (refine aC 8 ?_ ?_; rotate_left)); (first | refine aT 9 ?_ | refine aT2 9 ?_ | (refine aC 9 ?_ ?_; rotate_left)); (first | refine aT 10 ?_ | refine aT2 10 ?_ | (refine aC 10 ?_ ?_; rotate_left)); (first | refine aT 12 ?_ | refine aT2 12 ?_ | (refine aC 12 ?_ ?_; rotate_left)); (first | refine aT 13 ?_ | refine aT2 13 ?_ | (refine aC 13 ?_ ?_; rotate_left)); (first | refine aT 14 ?_ | refine aT2 14 ?_ | (refine aC 14 ?_ ?_; rotate_left)); (first | refine aT 15 ?_ | refine aT2 15 ?_ | (refine aC 15 ?_ ?_; rotate_left)); (refine any_many [3, 5] (by kernel_rfl) (by decide) rfl ⟨?_, ?_, trivial⟩ <;> first | ((refine any_i 3 (ch := []) rfl rfl (pst_make rfl rfl rfl rfl trivial ?_)); (refine aO 5 rfl (ch := [_])  ( pzn hn ?_)); (rintro at_ _ b1 b2 ⟨x, rfl, hx1, hx2⟩); (refine any_many [6, 11] (by kernel_rfl) (by decide) rfl ⟨?_, ?_, trivial⟩ <;> first | ((refine any_i 6 (ch := []) rfl rfl (pst_read rfl rfl rfl rfl (by exact ⟨by omega, by omega⟩) ?_)); (refine any_many [7, 11] (by kernel_rfl) (by decide) rfl ⟨?_, ?_, trivial⟩ <;> first | ((refine any_i 7 (ch := []) rfl rfl (pst_read rfl rfl rfl (pread_aggs (q := [vi (r3 x.toNat).1, vi (r3 x.toNat).2]) rfl rfl rfl rfl rfl rfl (r3_row hx1 hx2)) (show 0 + x.toNat < 3 by omega) ?_)); (refine aO 11 rfl (ch := [_])  ( pzn hn ?_)); (rintro at_ _ b1 b2 ⟨y, rfl, hy1, hy2⟩); (refine aO 16 rfl (ch := [_])  ( pz i1 hn ?_)); (rintro at_ _ b1 b2 ⟨e, rfl, he⟩); (refine aO 17 rfl (ch := [])  (pst_make rfl rfl rfl rfl trivial ?_)); (first | refine aT2 18 ?_ | (refine aC2 18 ?_ ?_; rotate_left)); (refine aO 19 rfl (ch := [_])  (pst_store rfl rfl rfl rfl Nat.zero_lt_one ?_)); (refine any_done (by kernel_rfl) ?_)) | ((refine any_i 11 (ch := [_]) rfl rfl ( pzn hn ?_)); (rintro at_ _ b1 b2 ⟨y, rfl, hy1, hy2⟩); (refine any_many [7, 16] (by kernel_rfl) (by decide) rfl ⟨?_, ?_, trivial⟩ <;> first | ((refine any_i 7 (ch := []) rfl rfl (pst_read rfl rfl rfl (pread_aggs (q := [vi (r3 x.toNat).1, vi (r3 x.toNat).2]) rfl rfl rfl rfl rfl rfl (r3_row hx1 hx2)) (show 0 + x.toNat < 3 by omega) ?_)); (refine aO 16 rfl (ch := [_])  ( pz i1 hn ?_)); (rintro at_ _ b1 b2 ⟨e, rfl, he⟩); (refine aO 17 rfl (ch := [])  (pst_make rfl rfl rfl rfl trivial ?_)); (first | refine aT2 18 ?_ | (refine aC2 18 ?_ ?_; rotate_left)); (refine aO 19 rfl (ch := [_])  (pst_store rfl rfl rfl rfl Nat.zero_lt_one ?_)); (refine any_done (by kernel_rfl) ?_)) | ((refine any_i 16 (ch := [_]) rfl rfl ( pz i1 hn ?_)); (rintro at_ _ b1 b2 ⟨e, rfl, he⟩); (refine any_many [7, 17] (by kernel_rfl) (by decide) rfl ⟨?_, ?_, trivial⟩ <;> first | ((refine any_i 7 (ch := []) rfl rfl (pst_read rfl rfl rfl (pread_aggs (q := [vi (r3 x.toNat).1, vi (r3 x.toNat).2]) rfl rfl rfl rfl rfl rfl (r3_row hx1 hx2)) (show 0 + x.toNat < 3 by omega) ?_)); (refine aO 17 rfl (ch := [])  (pst_make rfl rfl rfl rfl trivial ?_)); (first | refine aT2 18 ?_ | (refine aC2 18 ?_ ?_; rotate_left)); (refine aO 19 rfl (ch := [_])  (pst_store rfl rfl rfl rfl Nat.zero_lt_one ?_)); (refine any_done (by kernel_rfl) ?_)) | ((refine any_i 17 (ch := []) rfl rfl (pst_make rfl rfl rfl rfl trivial ?_)); (refine aO 7 rfl (ch := [])  (pst_read rfl rfl rfl (pread_aggs (q := [vi (r3 x.toNat).1, vi (r3 x.toNat).2]) rfl rfl rfl rfl rfl rfl (r3_row hx1 hx2)) (show 0 + x.toNat < 3 by omega) ?_)); (first | refine aT2 18 ?_ | (refine aC2 18 ?_ ?_; rotate_left)); (refine aO 19 rfl (ch := [_])  (pst_store rfl rfl rfl rfl Nat.zero_lt_one ?_)); (refine any_done (by kernel_rfl) ?_)))))))) | ((refine any_i 11 (ch := [_]) rfl rfl ( pzn hn ?_)); (rintro at_ _ b1 b2 ⟨y, rfl, hy1, hy2⟩); (refine any_many [6, 16] (by kernel_rfl) (by decide) rfl ⟨?_, ?_, trivial⟩ <;> first | ((refine any_i 6 (ch := []) rfl rfl (pst_read rfl rfl rfl rfl (by exact ⟨by omega, by omega⟩) ?_)); (refine any_many [7, 16] (by kernel_rfl) (by decide) rfl ⟨?_, ?_, trivial⟩ <;> first | ((refine any_i 7 (ch := []) rfl rfl (pst_read rfl rfl rfl (pread_aggs (q := [vi (r3 x.toNat).1, vi (r3 x.toNat).2]) rfl rfl rfl rfl rfl rfl (r3_row hx1 hx2)) (show 0 + x.toNat < 3 by omega) ?_)); (refine aO 16 rfl (ch := [_])  ( pz i1 hn ?_)); (rintro at_ _ b1 b2 ⟨e, rfl, he⟩); (refine aO 17 rfl (ch := [])  (pst_make rfl rfl rfl rfl trivial ?_)); (first | refine aT2 18 ?_ | (refine aC2 18 ?_ ?_; rotate_left)); (refine aO 19 rfl (ch := [_])  (pst_store rfl rfl rfl rfl Nat.zero_lt_one ?_)); (refine any_done (by kernel_rfl) ?_)) | ((refine any_i 16 (ch := [_]) rfl rfl ( pz i1 hn ?_)); (rintro at_ _ b1 b2 ⟨e, rfl, he⟩); (refine any_many [7, 17] (by kernel_rfl) (by decide) rfl ⟨?_, ?_, trivial⟩ <;> first | ((refine any_i 7 (ch := []) rfl rfl (pst_read rfl rfl rfl (pread_aggs (q := [vi (r3 x.toNat).1, vi (r3 x.toNat).2]) rfl rfl rfl rfl rfl rfl (r3_row hx1 hx2)) (show 0 + x.toNat < 3 by omega) ?_)); (refine aO 17 rfl (ch := [])  (pst_make rfl rfl rfl rfl trivial ?_)); (first | refine aT2 18 ?_ | (refine aC2 18 ?_ ?_; rotate_left)); (refine aO 19 rfl (ch := [_])  (pst_store rfl rfl rfl rfl Nat.zero_lt_one ?_)); (refine any_done (by kernel_rfl) ?_)) | ((refine any_i 17 (ch := []) rfl rfl (pst_make rfl rfl rfl rfl trivial ?_)); (refine aO 7 rfl (ch := [])  (pst_read rfl rfl rfl (pread_aggs (q := [vi (r3 x.toNat).1, vi (r3 x.toNat).2]) rfl rfl rfl rfl rfl rfl (r3_row hx1 hx2)) (show 0 + x.toNat < 3 by omega) ?_)); (first | refine aT2 18 ?_ | (refine aC2 18 ?_ ?_; rotate_left)); (refine aO 19 rfl (ch := [_])  (pst_store rfl rfl rfl rfl Nat.zero_lt_one ?_)); (refine any_done (by kernel_rfl) ?_)))))) | ((refine any_i 16 (ch := [_]) rfl rfl ( pz i1 hn ?_)); (rintro at_ _ b1 b2 ⟨e, rfl, he⟩); (refine any_many [6, 17] (by kernel_rfl) (by decide) rfl ⟨?_, ?_, trivial⟩ <;> first | ((refine any_i 6 (ch := []) rfl rfl (pst_read rfl rfl rfl rfl (by exact ⟨by omega, by omega⟩) ?_)); (refine any_many [7, 17] (by kernel_rfl) (by decide) rfl ⟨?_, ?_, trivial⟩ <;> first | ((refine any_i 7 (ch := []) rfl rfl (pst_read rfl rfl rfl (pread_aggs (q := [vi (r3 x.toNat).1, vi (r3 x.toNat).2]) rfl rfl rfl rfl rfl rfl (r3_row hx1 hx2)) (show 0 + x.toNat < 3 by omega) ?_)); (refine aO 17 rfl (ch := [])  (pst_make rfl rfl rfl rfl trivial ?_)); (first | refine aT2 18 ?_ | (refine aC2 18 ?_ ?_; rotate_left)); (refine aO 19 rfl (ch := [_])  (pst_store rfl rfl rfl rfl Nat.zero_lt_one ?_)); (refine any_done (by kernel_rfl) ?_)) | ((refine any_i 17 (ch := []) rfl rfl (pst_make rfl rfl rfl rfl trivial ?_)); (refine aO 7 rfl (ch := [])  (pst_read rfl rfl rfl (pread_aggs (q := [vi (r3 x.toNat).1, vi (r3 x.toNat).2]) rfl rfl rfl rfl rfl rfl (r3_row hx1 hx2)) (show 0 + x.toNat < 3 by omega) ?_)); (first | refine aT2 18 ?_ | (refine aC2 18 ?_ ?_; rotate_left)); (refine aO 19 rfl (ch := [_])  (pst_store rfl rfl rfl rfl Nat.zero_lt_one ?_)); (refine any_done (by kernel_rfl) ?_)))) | ((refine any_i 17 (ch := []) rfl rfl (pst_make rfl rfl rfl rfl trivial ?_)); (refine aO 6 rfl (ch := [])  (pst_read rfl rfl rfl rfl (by exact ⟨by omega, by omega⟩) ?_)); (refine aO 7 rfl (ch := [])  (pst_read rfl rfl rfl (pread_aggs (q := [vi (r3 x.toNat).1, vi (r3 x.toNat).2]) rfl rfl rfl rfl rfl rfl (r3_row hx1 hx2)) (show 0 + x.toNat < 3 by omega) ?_)); (first | refine aT2 18 ?_ | (refine aC2 18 ?_ ?_; rotate_left)); (refine aO 19 rfl (ch := [_])  (pst_store rfl rfl rfl rfl Nat.zero_lt_one ?_)); (refine any_done (by kernel_rfl) ?_)))))))) | ((refine any_i 5 (ch := [_]) rfl rfl ( pzn hn ?_)); (rintro at_ _ b1 b2 ⟨x, rfl, hx1, hx2⟩); (refine any_many [3, 11] (by kernel_rfl) (by decide) rfl ⟨?_, ?_, trivial⟩ <;> first | ((refine any_i 3 (ch := []) rfl rfl (pst_make rfl rfl rfl rfl trivial ?_)); (refine any_many [6, 11] (by kernel_rfl) (by decide) rfl ⟨?_, ?_, trivial⟩ <;> first | ((refine any_i 6 (ch := []) rfl rfl (pst_read rfl rfl rfl rfl (by exact ⟨by omega, by omega⟩) ?_)); (refine any_many [7, 11] (by kernel_rfl) (by decide) rfl ⟨?_, ?_, trivial⟩ <;> first | ((refine any_i 7 (ch := []) rfl rfl (pst_read rfl rfl rfl (pread_aggs (q := [vi (r3 x.toNat).1, vi (r3 x.toNat).2]) rfl rfl rfl rfl rfl rfl (r3_row hx1 hx2)) (show 0 + x.toNat < 3 by omega) ?_)); (refine aO 11 rfl (ch := [_])  ( pzn hn ?_)); (rintro at_ _ b1 b2 ⟨y, rfl, hy1, hy2⟩); (refine aO 16 rfl (ch := [_])  ( pz i1 hn ?_)); (rintro at_ _ b1 b2 ⟨e, rfl, he⟩); (refine aO 17 rfl (ch := [])  (pst_make rfl rfl rfl rfl trivial ?_)); (first | refine aT2 18 ?_ | (refine aC2 18 ?_ ?_; rotate_left)); (refine aO 19 rfl (ch := [_])  (pst_store rfl rfl rfl rfl Nat.zero_lt_one ?_)); (refine any_done (by kernel_rfl) ?_)) | ((refine any_i 11 (ch := [_]) rfl rfl ( pzn hn ?_)); (rintro at_ _ b1 b2 ⟨y, rfl, hy1, hy2⟩); (refine any_many [7, 16] (by kernel_rfl) (by decide) rfl ⟨?_, ?_, trivial⟩ <;> first | ((refine any_i 7 (ch := []) rfl rfl (pst_read rfl rfl rfl (pread_aggs (q := [vi (r3 x.toNat).1, vi (r3 x.toNat).2]) rfl rfl rfl rfl rfl rfl (r3_row hx1 hx2)) (show 0 + x.toNat < 3 by omega) ?_)); (refine aO 16 rfl (ch := [_])  ( pz i1 hn ?_)); (rintro at_ _ b1 b2 ⟨e, rfl, he⟩); (refine aO 17 rfl (ch := [])  (pst_make rfl rfl rfl rfl trivial ?_)); (first | refine aT2 18 ?_ | (refine aC2 18 ?_ ?_; rotate_left)); (refine aO 19 rfl (ch := [_])  (pst_store rfl rfl rfl rfl Nat.zero_lt_one ?_)); (refine any_done (by kernel_rfl) ?_)) | ((refine any_i 16 (ch := [_]) rfl rfl ( pz i1 hn ?_)); (rintro at_ _ b1 b2 ⟨e, rfl, he⟩); (refine any_many [7, 17] (by kernel_rfl) (by decide) rfl ⟨?_, ?_, trivial⟩ <;> first | ((refine any_i 7 (ch := []) rfl rfl (pst_read rfl rfl rfl (pread_aggs (q := [vi (r3 x.toNat).1, vi (r3 x.toNat).2]) rfl rfl rfl rfl rfl rfl (r3_row hx1 hx2)) (show 0 + x.toNat < 3 by omega) ?_)); (refine aO 17 rfl (ch := [])  (pst_make rfl rfl rfl rfl trivial ?_)); (first | refine aT2 18 ?_ | (refine aC2 18 ?_ ?_; rotate_left)); (refine aO 19 rfl (ch := [_])  (pst_store rfl rfl rfl rfl Nat.zero_lt_one ?_)); (refine any_done (by kernel_rfl) ?_)) | ((refine any_i 17 (ch := []) rfl rfl (pst_make rfl rfl rfl rfl trivial ?_)); (refine aO 7 rfl (ch := [])  (pst_read rfl rfl rfl (pread_aggs (q := [vi (r3 x.toNat).1, vi (r3 x.toNat).2]) rfl rfl rfl rfl rfl rfl (r3_row hx1 hx2)) (show 0 + x.toNat < 3 by omega) ?_)); (first | refine aT2 18 ?_ | (refine aC2 18 ?_ ?_; rotate_left)); (refine aO 19 rfl (ch := [_])  (pst_store rfl rfl rfl rfl Nat.zero_lt_one ?_)); (refine any_done (by kernel_rfl) ?_)))))))) | ((refine any_i 11 (ch := [_]) rfl rfl ( pzn hn ?_)); (rintro at_ _ b1 b2 ⟨y, rfl, hy1, hy2⟩); (refine any_many [6, 16] (by kernel_rfl) (by decide) rfl ⟨?_, ?_, trivial⟩ <;> first | ((refine any_i 6 (ch := []) rfl rfl (pst_read rfl rfl rfl rfl (by exact ⟨by omega, by omega⟩) ?_)); (refine any_many [7, 16] (by kernel_rfl) (by decide) rfl ⟨?_, ?_, trivial⟩ <;> first | ((refine any_i 7 (ch := []) rfl rfl (pst_read rfl rfl rfl (pread_aggs (q := [vi (r3 x.toNat).1, vi (r3 x.toNat).2]) rfl rfl rfl rfl rfl rfl (r3_row hx1 hx2)) (show 0 + x.toNat < 3 by omega) ?_)); (refine aO 16 rfl (ch := [_])  ( pz i1 hn ?_)); (rintro at_ _ b1 b2 ⟨e, rfl, he⟩); (refine aO 17 rfl (ch := [])  (pst_make rfl rfl rfl rfl trivial ?_)); (first | refine aT2 18 ?_ | (refine aC2 18 ?_ ?_; rotate_left)); (refine aO 19 rfl (ch := [_])  (pst_store rfl rfl rfl rfl Nat.zero_lt_one ?_)); (refine any_done (by kernel_rfl) ?_)) | ((refine any_i 16 (ch := [_]) rfl rfl ( pz i1 hn ?_)); (rintro at_ _ b1 b2 ⟨e, rfl, he⟩); (refine any_many [7, 17] (by kernel_rfl) (by decide) rfl ⟨?_, ?_, trivial⟩ <;> first | ((refine any_i 7 (ch := []) rfl rfl (pst_read rfl rfl rfl (pread_aggs (q := [vi (r3 x.toNat).1, vi (r3 x.toNat).2]) rfl rfl rfl rfl rfl rfl (r3_row hx1 hx2)) (show 0 + x.toNat < 3 by omega) ?_)); (refine aO 17 rfl (ch := [])  (pst_make rfl rfl rfl rfl trivial ?_)); (first | refine aT2 18 ?_ | (refine aC2 18 ?_ ?_; rotate_left)); (refine aO 19 rfl (ch := [_])  (pst_store rfl rfl rfl rfl Nat.zero_lt_one ?_)); (refine any_done (by kernel_rfl) ?_)) | ((refine any_i 17 (ch := []) rfl rfl (pst_make rfl rfl rfl rfl trivial ?_)); (refine aO 7 rfl (ch := [])  (pst_read rfl rfl rfl (pread_aggs (q := [vi (r3 x.toNat).1, vi (r3 x.toNat).2]) rfl rfl rfl rfl rfl rfl (r3_row hx1 hx2)) (show 0 + x.toNat < 3 by omega) ?_)); (first | refine aT2 18 ?_ | (refine aC2 18 ?_ ?_; rotate_left)); (refine aO 19 rfl (ch := [_])  (pst_store rfl rfl rfl rfl Nat.zero_lt_one ?_)); (refine any_done (by kernel_rfl) ?_)))))) | ((refine any_i 16 (ch := [_]) rfl rfl ( pz i1 hn ?_)); (rintro at_ _ b1 b2 ⟨e, rfl, he⟩); (refine any_many [6, 17] (by kernel_rfl) (by decide) rfl ⟨?_, ?_, trivial⟩ <;> first | ((refine any_i 6 (ch := []) rfl rfl (pst_read rfl rfl rfl rfl (by exact ⟨by omega, by omega⟩) ?_)); (refine any_many [7, 17] (by kernel_rfl) (by decide) rfl ⟨?_, ?_, trivial⟩ <;> first | ((refine any_i 7 (ch := []) rfl rfl (pst_read rfl rfl rfl (pread_aggs (q := [vi (r3 x.toNat).1, vi (r3 x.toNat).2]) rfl rfl rfl rfl rfl rfl (r3_row hx1 hx2)) (show 0 + x.toNat < 3 by omega) ?_)); (refine aO 17 rfl (ch := [])  (pst_make rfl rfl rfl rfl trivial ?_)); (first | refine aT2 18 ?_ | (refine aC2 18 ?_ ?_; rotate_left)); (refine aO 19 rfl (ch := [_])  (pst_store rfl rfl rfl rfl Nat.zero_lt_one ?_)); (refine any_done (by kernel_rfl) ?_)) | ((refine any_i 17 (ch := []) rfl rfl (pst_make rfl rfl rfl rfl trivial ?_)); (refine aO 7 rfl (ch := [])  (pst_read rfl rfl rfl (pread_aggs (q := [vi (r3 x.toNat).1, vi (r3 x.toNat).2]) rfl rfl rfl rfl rfl rfl (r3_row hx1 hx2)) (show 0 + x.toNat < 3 by omega) ?_)); (first | refine aT2 18 ?_ | (refine aC2 18 ?_ ?_; rotate_left)); (refine aO 19 rfl (ch := [_])  (pst_store rfl rfl rfl rfl Nat.zero_lt_one ?_)); (refine any_done (by kernel_rfl) ?_)))) | ((refine any_i 17 (ch := []) rfl rfl (pst_make rfl rfl rfl rfl trivial ?_)); (refine aO 6 rfl (ch := [])  (pst_read rfl rfl rfl rfl (by exact ⟨by omega, by omega⟩) ?_)); (refine aO 7 rfl (ch := [])  (pst_read rfl rfl rfl (pread_aggs (q := [vi (r3 x.toNat).1, vi (r3 x.toNat).2]) rfl rfl rfl rfl rfl rfl (r3_row hx1 hx2)) (show 0 + x.toNat < 3 by omega) ?_)); (first | refine aT2 18 ?_ | (refine aC2 18 ?_ ?_; rotate_left)); (refine aO 19 rfl (ch := [_])  (pst_store rfl rfl rfl rfl Nat.zero_lt_one ?_)); (refine any_done (by kernel_rfl) ?_)))))))) | ((refine any_i 11 (ch := [_]) rfl rfl ( pzn hn ?_)); (rintro at_ _ b1 b2 ⟨y, rfl, hy1, hy2⟩); (refine any_many [3, 16] (by kernel_rfl) (by decide) rfl ⟨?_, ?_, trivial⟩ <;> first | ((refine any_i 3 (ch := []) rfl rfl (pst_make rfl rfl rfl rfl trivial ?_)); (refine any_many [6, 16] (by kernel_rfl) (by decide) rfl ⟨?_, ?_, trivial⟩ <;> first | ((refine any_i 6 (ch := []) rfl rfl (pst_read rfl rfl rfl rfl (by exact ⟨by omega, by omega⟩) ?_)); (refine any_many [7, 16] (by kernel_rfl) (by decide) rfl ⟨?_, ?_, trivial⟩ <;> first | ((refine any_i 7 (ch := []) rfl rfl (pst_read rfl rfl rfl (pread_aggs (q := [vi (r3 x.toNat).1, vi (r3 x.toNat).2]) rfl rfl rfl rfl rfl rfl (r3_row hx1 hx2)) (show 0 + x.toNat < 3 by omega) ?_)); (refine aO 16 rfl (ch := [_])  ( pz i1 hn ?_)); (rintro at_ _ b1 b2 ⟨e, rfl, he⟩); (refine aO 17 rfl (ch := [])  (pst_make rfl rfl rfl rfl trivial ?_)); (first | refine aT2 18 ?_ | (refine aC2 18 ?_ ?_; rotate_left)); (refine aO 19 rfl (ch := [_])  (pst_store rfl rfl rfl rfl Nat.zero_lt_one ?_)); (refine any_done (by kernel_rfl) ?_)) | ((refine any_i 16 (ch := [_]) rfl rfl ( pz i1 hn ?_)); (rintro at_ _ b1 b2 ⟨e, rfl, he⟩); (refine any_many [7, 17] (by kernel_rfl) (by decide) rfl ⟨?_, ?_, trivial⟩ <;> first | ((refine any_i 7 (ch := []) rfl rfl (pst_read rfl rfl rfl (pread_aggs (q := [vi (r3 x.toNat).1, vi (r3 x.toNat).2]) rfl rfl rfl rfl rfl rfl (r3_row hx1 hx2)) (show 0 + x.toNat < 3 by omega) ?_)); (refine aO 17 rfl (ch := [])  (pst_make rfl rfl rfl rfl trivial ?_)); (first | refine aT2 18 ?_ | (refine aC2 18 ?_ ?_; rotate_left)); (refine aO 19 rfl (ch := [_])  (pst_store rfl rfl rfl rfl Nat.zero_lt_one ?_)); (refine any_done (by kernel_rfl) ?_)) | ((refine any_i 17 (ch := []) rfl rfl (pst_make rfl rfl rfl rfl trivial ?_)); (refine aO 7 rfl (ch := [])  (pst_read rfl rfl rfl (pread_aggs (q := [vi (r3 x.toNat).1, vi (r3 x.toNat).2]) rfl rfl rfl rfl rfl rfl (r3_row hx1 hx2)) (show 0 + x.toNat < 3 by omega) ?_)); (first | refine aT2 18 ?_ | (refine aC2 18 ?_ ?_; rotate_left)); (refine aO 19 rfl (ch := [_])  (pst_store rfl rfl rfl rfl Nat.zero_lt_one ?_)); (refine any_done (by kernel_rfl) ?_)))))) | ((refine any_i 16 (ch := [_]) rfl rfl ( pz i1 hn ?_)); (rintro at_ _ b1 b2 ⟨e, rfl, he⟩); (refine any_many [6, 17] (by kernel_rfl) (by decide) rfl ⟨?_, ?_, trivial⟩ <;> first | ((refine any_i 6 (ch := []) rfl rfl (pst_read rfl rfl rfl rfl (by exact ⟨by omega, by omega⟩) ?_)); (refine any_many [7, 17] (by kernel_rfl) (by decide) rfl ⟨?_, ?_, trivial⟩ <;> first | ((refine any_i 7 (ch := []) rfl rfl (pst_read rfl rfl rfl (pread_aggs (q := [vi (r3 x.toNat).1, vi (r3 x.toNat).2]) rfl rfl rfl rfl rfl rfl (r3_row hx1 hx2)) (show 0 + x.toNat < 3 by omega) ?_)); (refine aO 17 rfl (ch := [])  (pst_make rfl rfl rfl rfl trivial ?_)); (first | refine aT2 18 ?_ | (refine aC2 18 ?_ ?_; rotate_left)); (refine aO 19 rfl (ch := [_])  (pst_store rfl rfl rfl rfl Nat.zero_lt_one ?_)); (refine any_done (by kernel_rfl) ?_)) | ((refine any_i 17 (ch := []) rfl rfl (pst_make rfl rfl rfl rfl trivial ?_)); (refine aO 7 rfl (ch := [])  (pst_read rfl rfl rfl (pread_aggs (q := [vi (r3 x.toNat).1, vi (r3 x.toNat).2]) rfl rfl rfl rfl rfl rfl (r3_row hx1 hx2)) (show 0 + x.toNat < 3 by omega) ?_)); (first | refine aT2 18 ?_ | (refine aC2 18 ?_ ?_; rotate_left)); (refine aO 19 rfl (ch := [_])  (pst_store rfl rfl rfl rfl Nat.zero_lt_one ?_)); (refine any_done (by kernel_rfl) ?_)))) | ((refine any_i 17 (ch := []) rfl rfl (pst_make rfl rfl rfl rfl trivial ?_)); (refine aO 6 rfl (ch := [])  (pst_read rfl rfl rfl rfl (by exact ⟨by omega, by omega⟩) ?_)); (refine aO 7 rfl (ch := [])  (pst_read rfl rfl rfl (pread_aggs (q := [vi (r3 x.toNat).1, vi (r3 x.toNat).2]) rfl rfl rfl rfl rfl rfl (r3_row hx1 hx2)) (show 0 + x.toNat < 3 by omega) ?_)); (first | refine aT2 18 ?_ | (refine aC2 18 ?_ ?_; rotate_left)); (refine aO 19 rfl (ch := [_])  (pst_store rfl rfl rfl rfl Nat.zero_lt_one ?_)); (refine any_done (by kernel_rfl) ?_)))))) | ((refine any_i 16 (ch := [_]) rfl rfl ( pz i1 hn ?_)); (rintro at_ _ b1 b2 ⟨e, rfl, he⟩); (refine any_many [3, 17] (by kernel_rfl) (by decide) rfl ⟨?_, ?_, trivial⟩ <;> first | ((refine any_i 3 (ch := []) rfl rfl (pst_make rfl rfl rfl rfl trivial ?_)); (refine any_many [6, 17] (by kernel_rfl) (by decide) rfl ⟨?_, ?_, trivial⟩ <;> first | ((refine any_i 6 (ch := []) rfl rfl (pst_read rfl rfl rfl rfl (by exact ⟨by omega, by omega⟩) ?_)); (refine any_many [7, 17] (by kernel_rfl) (by decide) rfl ⟨?_, ?_, trivial⟩ <;> first | ((refine any_i 7 (ch := []) rfl rfl (pst_read rfl rfl rfl (pread_aggs (q := [vi (r3 x.toNat).1, vi (r3 x.toNat).2]) rfl rfl rfl rfl rfl rfl (r3_row hx1 hx2)) (show 0 + x.toNat < 3 by omega) ?_)); (refine aO 17 rfl (ch := [])  (pst_make rfl rfl rfl rfl trivial ?_)); (first | refine aT2 18 ?_ | (refine aC2 18 ?_ ?_; rotate_left)); (refine aO 19 rfl (ch := [_])  (pst_store rfl rfl rfl rfl Nat.zero_lt_one ?_)); (refine any_done (by kernel_rfl) ?_)) | ((refine any_i 17 (ch := []) rfl rfl (pst_make rfl rfl rfl rfl trivial ?_)); (refine aO 7 rfl (ch := [])  (pst_read rfl rfl rfl (pread_aggs (q := [vi (r3 x.toNat).1, vi (r3 x.toNat).2]) rfl rfl rfl rfl rfl rfl (r3_row hx1 hx2)) (show 0 + x.toNat < 3 by omega) ?_)); (first | refine aT2 18 ?_ | (refine aC2 18 ?_ ?_; rotate_left)); (refine aO 19 rfl (ch := [_])  (pst_store rfl rfl rfl rfl Nat.zero_lt_one ?_)); (refine any_done (by kernel_rfl) ?_)))) | ((refine any_i 17 (ch := []) rfl rfl (pst_make rfl rfl rfl rfl trivial ?_)); (refine aO 6 rfl (ch := [])  (pst_read rfl rfl rfl rfl (by exact ⟨by omega, by omega⟩) ?_)); (refine aO 7 rfl (ch := [])  (pst_read rfl rfl rfl (pread_aggs (q := [vi (r3 x.toNat).1, vi (r3 x.toNat).2]) rfl rfl rfl rfl rfl rfl (r3_row hx1 hx2)) (show 0 + x.toNat < 3 by omega) ?_)); (first | refine aT2 18 ?_ | (refine aC2 18 ?_ ?_; rotate_left)); (refine aO 19 rfl (ch := [_])  (pst_store rfl rfl rfl rfl Nat.zero_lt_one ?_)); (refine any_done (by kernel_rfl) ?_)))) | ((refine any_i 17 (ch := []) rfl rfl (pst_make rfl rfl rfl rfl trivial ?_)); (refine aO 3 rfl (ch := [])  (pst_make rfl rfl rfl rfl trivial ?_)); (refine aO 6 rfl (ch := [])  (pst_read rfl rfl rfl rfl (by exact ⟨by omega, by omega⟩) ?_)); (refine aO 7 rfl (ch := [])  (pst_read rfl rfl rfl (pread_aggs (q := [vi (r3 x.toNat).1, vi (r3 x.toNat).2]) rfl rfl rfl rfl rfl rfl (r3_row hx1 hx2)) (show 0 + x.toNat < 3 by omega) ?_)); (first | refine aT2 18 ?_ | (refine aC2 18 ?_ ?_; rotate_left)); (refine aO 19 rfl (ch := [_])  (pst_store rfl rfl rfl rfl Nat.zero_lt_one ?_)); (refine any_done (by kernel_rfl) ?_)))))))))
      all_goals
        repeat' (first | refine yo ?_ ?_ | refine yw ?_ ?_ | refine yk ?_ ?_ | exact trivial | with_reducible refine wA ?_ ?_ | refine ys ?_ ?_ | refine xs_done ?_ | refine yl ?_ ?_ | refine w8 ?_ | refine w9 ?_ | refine w1 ?_ | refine w2 ?_ | refine w3 ?_ | refine w4 ?_ | refine w5 ?_ | refine w6 ?_ | refine w7 ?_ | refine yo0 ?_ ?_ | refine yw0 ?_ ?_ | exact qq | fail)
        refine xdone ?_
        first | refine ktapL [5] (qs := [vX (.mk _ _ _ _ _ _ _ _ _ 1 (k1 _))]) rfl b1 b2 (by simp) rfl ⟨Nat.zero_lt_one, trivial⟩ ⟨argEx (argK1 rfl (List.Mem.head _)), trivial⟩ ⟨_, rfl, ?_⟩ | refine ktapL [6] (qs := [vX (.mk _ _ _ _ _ _ _ _ _ 1 (k1 _))]) rfl b1 b2 (by simp) rfl ⟨Nat.zero_lt_one, trivial⟩ ⟨argEx (argK1 rfl (List.Mem.head _)), trivial⟩ ⟨_, rfl, ?_⟩ | refine ktapL [7] (qs := [vX (.mk _ _ _ _ _ _ _ _ _ 1 (k1 _))]) rfl b1 b2 (by simp) rfl ⟨Nat.zero_lt_one, trivial⟩ ⟨argEx (argK1 rfl (List.Mem.head _)), trivial⟩ ⟨_, rfl, ?_⟩
        exact okr (x := r3 x.toNat) (r3_mem _) (by omega) rfl (by decide) (by assumption)) : P := h
set_option maxHeartbeats 8000000 in
theorem expr_number_t (k : Nat) (hk5 : k ≤ 100) (ih : XT (k + 1)) (rules : Int) : TapC G.P 6 [vT t0, vi ((k + 1 + 1 : Nat) : Int), vi rules] (fun r => ∃ e, r = vX e ∧ EOk (k + 1 + 1) t0 e) := by
  have hw : IntKind.i64.wrap (((k + 1 + 1 : Nat) : Int) - 1) = ((k + 1 : Nat) : Int) := by rw [w64 (by omega) (by omega)]; omega
  have hd : decide (((k + 1 + 1 : Nat) : Int) ≤ 1) = false := decide_eq_false (by omega)
  have iH : ∀ t, t ∈ tys5 → TapC G.P 6 [vT t, vi (IntKind.i64.wrap (((k + 1 + 1 : Nat) : Int) - 1)), vi rules] (fun r => ∃ e, r = vX e ∧ EOk (k + 1) t e) := fun t ht => by
    rw [hw]; have := ih t ht rules; rwa [show max (k + 1) 1 = k + 1 by omega] at this
  have i1 := iH t0 (by simp [tys5])
  have i2 := iH t0 (by simp [tys5])
  have i3 := iH tM (by simp [tys5])
  have i4 := iH tH (by simp [tys5])
  have i5 := iH tR (by simp [tys5])
  have i6 := iH tB (by simp [tys5])
  have lf := leaf_number_t rules
  have okr := @ok_round (k + 1) t0
  exact exq
end Go.Proofs.YtdifpajpheemaaaGreatDoor
