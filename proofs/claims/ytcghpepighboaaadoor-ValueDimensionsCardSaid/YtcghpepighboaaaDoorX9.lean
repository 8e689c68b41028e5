/- Made expressions (plain): which are valid, and of a type. -/
import Derived.Test.YtcghpepighboaaaDoorX0c
import Derived.Test.YtcghpepighboaaaDoorPvTap
set_option linter.unusedSimpArgs false
set_option linter.unusedVariables false
set_option maxRecDepth 100000
namespace Go.Proofs.YtcghpepighboaaaDoor
abbrev tH : Ty := ⟨false, 0, 1, 0⟩
abbrev tR : Ty := ⟨false, 1, -1, 0⟩
abbrev n_h : ByteArray := ⟨#[104]⟩
abbrev n_g : ByteArray := ⟨#[103]⟩
abbrev n_f : ByteArray := ⟨#[102]⟩
abbrev n_r1 : ByteArray := ⟨#[114, 49]⟩
abbrev n_r2 : ByteArray := ⟨#[114, 50]⟩
abbrev n_r3 : ByteArray := ⟨#[114, 51]⟩
abbrev n_r4 : ByteArray := ⟨#[114, 52]⟩
abbrev n_a : ByteArray := ⟨#[97]⟩
abbrev n_b : ByteArray := ⟨#[98]⟩
abbrev n_w : ByteArray := ⟨#[119]⟩
abbrev n_s : ByteArray := ⟨#[115]⟩
abbrev n_gross : ByteArray := ⟨#[103, 114, 111, 115, 115]⟩
abbrev n_time : ByteArray := ⟨#[116, 105, 109, 101]⟩
structure Env (N S P : List Df) : Prop where
  h : findS N n_h = (tH, 0)
  g : findS N n_g = (t0, 0)
  f : findS N n_f = (tB, 0)
  r1 : findS N n_r1 = (tR, 0)
  r2 : findS N n_r2 = (tM, 0)
  r3 : findS N n_r3 = (tB, 0)
  r4 : findS N n_r4 = (t0, 0)
  a : findS N n_a = (tM, 0)
  w : findS S n_w = (tR, 0)
  s : findS S n_s = (t0, 0)
  gross : findS P n_gross = (tM, 0)
  time : findS P n_time = (tH, 0)
def decL : List (Int × Int) := [(1, 1), (2, 1), (0, 1), (5, 2), (1, 4), (76, 5), (40, 1), (1, 100), (3, 1), (100, 1)]
inductive Lit : Ex → Prop where
  | mk {op vn vd um uh ud : Int} {nm : ByteArray} {cnt mode : Int} {nk : Nat} {kf : Nat → Ex} (h : op = 1 ∨ op = 19 → (vn, vd) ∈ decL) (hk : ∀ i, i < nk → Lit (kf i)) : Lit (.mk op vn vd um uh ud nm cnt mode nk kf)
structure EOk (h : Nat) (t : Ty) (e : Ex) : Prop where
  bd : Bd e
  vl : ∀ n, h ≤ n → validS n e = true
  wt : ∀ N S P, Env N S P → ∀ n, h ≤ n → typeS N S P n e = (t, 0)
  lit : Lit e
theorem EOk.mono {h h' : Nat} {t : Ty} {e : Ex} (H : EOk h t e) (hh : h ≤ h') : EOk h' t e := ⟨H.bd, fun n hn => H.vl n (by omega), fun N S P hE n hn => H.wt N S P hE n (by omega), H.lit⟩
theorem EOk.node {h : Nat} {t : Ty} {op vn vd um uh ud : Int} {nm : ByteArray} {cnt mode : Int} {nk : Nat} {kf : Nat → Ex} (τ : Nat → Ty) (hb : -9223372036854775808 ≤ vn ∧ vn ≤ 9223372036854775807 ∧ nm.size ≤ 9223372036854775807) (hk : (nk : Int) = kidsN op) (hf : fieldS (.mk op vn vd um uh ud nm cnt mode nk kf) = true) (hkid : ∀ i, i < nk → EOk h (τ i) (kf i))
    (ho : ∀ N S P, Env N S P → opS N S P (.mk op vn vd um uh ud nm cnt mode nk kf) (if 0 < nk then τ 0 else t0) (if 1 < nk then τ 1 else t0) (if 2 < nk then τ 2 else t0) = (t, 0)) (hl : op = 1 ∨ op = 19 → (vn, vd) ∈ decL) : EOk (h + 1) t (.mk op vn vd um uh ud nm cnt mode nk kf) := by
  refine ⟨.mk hb fun i hi => (hkid i hi).bd, fun n hn => ?_, fun N S P hE n hn => ?_, .mk hl fun i hi => (hkid i hi).lit⟩
  · obtain ⟨m, rfl⟩ : ∃ m, n = m + 1 := ⟨n - 1, by omega⟩
    have e1 : decide (((nk : Nat) : Int) = kidsN op) = true := decide_eq_true hk
    show (decide (((nk : Nat) : Int) = kidsN op) && (fieldS _ && allK nk (fun i => validS m (kf i)))) = true
    rw [e1, hf, allK_iff.2 fun i hi => (hkid i hi).vl m (by omega)]; rfl
  · obtain ⟨m, rfl⟩ : ∃ m, n = m + 1 := ⟨n - 1, by omega⟩
    have hT : ∀ i, typeS N S P m ((Ex.mk op vn vd um uh ud nm cnt mode nk kf).kf i) = (fun i => typeS N S P m (kf i)) i := fun _ => rfl
    have h3 : nk ≤ 3 := by have := kidsN_le op; omega
    obtain ⟨_, h2⟩ := typeS_succ N S P m _ hT h3
    have hz : ∀ j, j < nk → typeS N S P m (kf j) = (τ j, 0) := fun j hj => (hkid j hj).wt N S P hE m (by omega)
    rw [h2 (fun j hj => by show (typeS N S P m (kf j)).2 = 0; rw [hz j hj])]
    have hkt : ∀ j, kt (fun i => typeS N S P m (kf i)) nk j = if j < nk then τ j else t0 := fun j => by
      unfold kt
      by_cases hj : j < nk
      · rw [if_pos hj, if_pos hj]; show (typeS N S P m (kf j)).1 = _; rw [hz j hj]
      · rw [if_neg hj, if_neg hj]
    show opS N S P _ (kt _ nk 0) (kt _ nk 1) (kt _ nk 2) = _
    rw [hkt, hkt, hkt]
    exact ho N S P hE
def k1 (a : Ex) (_ : Nat) : Ex := a
def k2 (a b : Ex) (i : Nat) : Ex := if i = 0 then a else b
def k3 (a b c : Ex) (i : Nat) : Ex := if i = 0 then a else if i = 1 then b else c
def kn (_ : Nat) : Ex := .nil
abbrev eOp (op : Int) (nk : Nat) (kf : Nat → Ex) : Ex := .mk op 0 0 0 0 0 ⟨#[]⟩ 0 0 nk kf
abbrev eNm (op : Int) (nm : ByteArray) (nk : Nat) (kf : Nat → Ex) : Ex := .mk op 0 0 0 0 0 nm 0 0 nk kf
theorem names_ok19 : nameS n_h = true ∧ nameS n_g = true ∧ nameS n_f = true ∧ nameS n_r1 = true ∧ nameS n_r2 = true ∧ nameS n_r3 = true ∧ nameS n_r4 = true ∧ nameS n_a = true ∧ nameS n_b = true ∧ nameS n_w = true ∧ nameS n_s = true ∧ nameS n_gross = true ∧ nameS n_time = true := by
  refine ⟨?_, ?_, ?_, ?_, ?_, ?_, ?_, ?_, ?_, ?_, ?_, ?_, ?_⟩ <;> decide +kernel
theorem ok_name {nm : ByteArray} {t : Ty} (h1 : nameS nm = true) (h2 : nm.size ≤ 100) (h3 : ∀ N S P, Env N S P → findS N nm = (t, 0)) : EOk 1 t (eNm 3 nm 0 kn) :=
  EOk.node (h := 0) (fun _ => t0) ⟨by show (-9223372036854775808 : Int) ≤ 0; decide, by show (0 : Int) ≤ 9223372036854775807; decide, by omega⟩ rfl (by simp [fieldS, Ex.op, Ex.vn, Ex.vd, Ex.um, Ex.uh, Ex.ud, Ex.nm, Ex.cnt, Ex.mode, h1]) (fun i hi => by omega) (fun N S P hE => by show findS N nm = _; exact h3 N S P hE) (by omega)
theorem ok_past {op : Int} {nm : ByteArray} {t : Ty} {c : Int} (hop : op = 20 ∨ op = 21) (h1 : nameS nm = true) (h2 : nm.size ≤ 100) (hc : 1 ≤ c ∧ c ≤ 120) (h3 : ∀ N S P, Env N S P → findS P nm = (t, 0)) : EOk 1 t (.mk op 0 0 0 0 0 nm c 0 0 kn) := by
  refine EOk.node (h := 0) (fun _ => t0) ⟨by decide, by decide, by omega⟩ ?_ ?_ (fun i hi => by omega) (fun N S P hE => ?_) (by omega)
  · rcases hop with rfl | rfl <;> rfl
  · rcases hop with rfl | rfl <;> simp [fieldS, Ex.op, Ex.vn, Ex.vd, Ex.um, Ex.uh, Ex.ud, Ex.nm, Ex.cnt, Ex.mode, h1, hc]
  · rcases hop with rfl | rfl <;> exact h3 N S P hE
theorem ok_truth {c : Int} (hc : c = 0 ∨ c = 1) : EOk 1 tB (.mk 2 0 0 0 0 0 ⟨#[]⟩ c 0 0 kn) := by
  refine EOk.node (h := 0) (fun _ => t0) ⟨by decide, by decide, by decide⟩ rfl ?_ (fun i hi => by omega) (fun N S P hE => rfl) (by omega)
  rcases hc with rfl | rfl <;> simp [fieldS, Ex.op, Ex.vn, Ex.vd, Ex.um, Ex.uh, Ex.ud, Ex.nm, Ex.cnt, Ex.mode] <;> rfl
theorem ok_num {x : Int × Int} {m h d : Int} (hx : x ∈ decL) (hu : unitS m h d = true) : EOk 1 ⟨false, m, h, d⟩ (.mk 1 x.1 x.2 m h d ⟨#[]⟩ 0 0 0 kn) := by
  have key : ∀ x ∈ decL, -9223372036854775808 ≤ x.1 ∧ x.1 ≤ 9223372036854775807 ∧ decS x.1 x.2 = true := by decide +kernel
  obtain ⟨k1, k2, k3⟩ := key x hx
  refine EOk.node (h := 0) (fun _ => t0) ⟨k1, k2, by decide⟩ rfl ?_ (fun i hi => by omega) (fun N S P hE => rfl) (fun _ => hx)
  simp [fieldS, Ex.op, Ex.vn, Ex.vd, Ex.um, Ex.uh, Ex.ud, Ex.nm, Ex.cnt, Ex.mode, k3, hu]
theorem ok_op {h : Nat} {t : Ty} {op : Int} {nk : Nat} {kf : Nat → Ex} (τ : Nat → Ty) (hop : 5 ≤ op ∧ op ≤ 18) (hk : (nk : Int) = kidsN op) (hkid : ∀ i, i < nk → EOk h (τ i) (kf i))
    (ho : ∀ N S P, opS N S P (eOp op nk kf) (if 0 < nk then τ 0 else t0) (if 1 < nk then τ 1 else t0) (if 2 < nk then τ 2 else t0) = (t, 0)) : EOk (h + 1) t (eOp op nk kf) := by
  refine EOk.node τ ⟨by decide, by decide, by decide⟩ hk ?_ hkid (fun N S P _ => ho N S P) (by omega)
  have e1 : ¬ op = 1 := by omega
  have e2 : ¬ op = 2 := by omega
  have e3 : ¬ op = 3 := by omega
  have e4 : ¬ op = 4 := by omega
  have e5 : ¬ op = 19 := by omega
  have e6 : ¬ op = 20 := by omega
  have e7 : ¬ op = 21 := by omega
  simp [fieldS, Ex.op, Ex.vn, Ex.vd, Ex.um, Ex.uh, Ex.ud, Ex.nm, Ex.cnt, Ex.mode, e1, e2, e3, e4, e5, e6, e7]
theorem ok_two {h : Nat} {t ta tb : Ty} {op : Int} {a b : Ex} (hop : 5 ≤ op ∧ op ≤ 15) (ha : EOk h ta a) (hb : EOk h tb b) (ho : ∀ N S P, opS N S P (eOp op 2 (k2 a b)) ta tb t0 = (t, 0)) : EOk (h + 1) t (eOp op 2 (k2 a b)) := by
  refine ok_op (fun i => if i = 0 then ta else tb) ⟨hop.1, by omega⟩ ?_ (fun i hi => ?_) ho
  · unfold kidsN; rw [if_neg (by omega), if_neg (by omega), if_pos hop]; rfl
  · rcases (by omega : i = 0 ∨ i = 1) with rfl | rfl
    · exact ha
    · exact hb
theorem ok_one {h : Nat} {t ta : Ty} {op : Int} {a : Ex} (hop : op = 16 ∨ op = 17) (ha : EOk h ta a) (ho : ∀ N S P, opS N S P (eOp op 1 (k1 a)) ta t0 t0 = (t, 0)) : EOk (h + 1) t (eOp op 1 (k1 a)) := by
  refine ok_op (fun _ => ta) ⟨by omega, by omega⟩ ?_ (fun i hi => ha) ho
  rcases hop with rfl | rfl <;> rfl
theorem ok_if {h : Nat} {t : Ty} {a b c : Ex} (ha : EOk h tB a) (hb : EOk h t b) (hc : EOk h t c) : EOk (h + 1) t (eOp 18 3 (k3 a b c)) := by
  refine ok_op (fun i => if i = 0 then tB else t) ⟨by decide, by decide⟩ rfl (fun i hi => ?_) (fun N S P => ?_)
  · rcases (by omega : i = 0 ∨ i = 1 ∨ i = 2) with rfl | rfl | rfl
    · exact ha
    · exact hb
    · exact hc
  · obtain ⟨tb, tm, th, td⟩ := t
    cases tb <;> simp [opS, Ex.op, resS, equS]
theorem ok_scale {h : Nat} {t : Ty} {nm : ByteArray} {a : Ex} (h1 : nameS nm = true) (h2 : nm.size ≤ 100) (ha : EOk h t0 a) (h3 : ∀ N S P, Env N S P → findS S nm = (t, 0)) : EOk (h + 1) t (eNm 4 nm 1 (k1 a)) := by
  refine EOk.node (fun _ => t0) ⟨by decide, by decide, by omega⟩ rfl ?_ (fun i hi => ha) (fun N S P hE => ?_) (by omega)
  · simp [fieldS, Ex.op, Ex.vn, Ex.vd, Ex.um, Ex.uh, Ex.ud, Ex.nm, Ex.cnt, Ex.mode, h1]
  · have := h3 N S P hE
    simp [opS, Ex.op, Ex.nm, this, resS, equS]
theorem key0 : ∀ x ∈ [((1 : Int), (1 : Int)), (1, 100), (1, 4)], x ∈ decL := by decide +kernel
theorem ok_round {h : Nat} {t : Ty} {x : Int × Int} {mode : Int} {a : Ex} (hx : x ∈ [((1 : Int), (1 : Int)), (1, 100), (1, 4)]) (hm : 0 ≤ mode ∧ mode ≤ 6) (ht : t.b = false) (hu : unitS t.m t.h t.d = true) (ha : EOk h t a) : EOk (h + 1) t (.mk 19 x.1 x.2 t.m t.h t.d ⟨#[]⟩ 0 mode 1 (k1 a)) := by
  have key : ∀ x ∈ [((1 : Int), (1 : Int)), (1, 100), (1, 4)], -9223372036854775808 ≤ x.1 ∧ x.1 ≤ 9223372036854775807 ∧ decS x.1 x.2 = true ∧ 0 < x.1 := by decide +kernel
  obtain ⟨k1', k2', k3', k4'⟩ := key x hx
  refine EOk.node (fun _ => t) ⟨k1', k2', by decide⟩ rfl ?_ (fun i hi => ha) (fun N S P hE => ?_) (fun _ => key0 _ hx)
  · have : modeB mode = true := by simp [modeB]; omega
    simp [fieldS, Ex.op, Ex.vn, Ex.vd, Ex.um, Ex.uh, Ex.ud, Ex.nm, Ex.cnt, Ex.mode, k3', k4', hu, this]
  · obtain ⟨tb, tm, th, td⟩ := t
    have ht : tb = false := ht
    subst ht
    simp [opS, Ex.op, Ex.um, Ex.uh, Ex.ud, resS, equS]
def tabL : List (ByteArray × Int × Ty) := [(n_h, 1, tH), (n_g, 1, t0), (n_f, 1, tB), (n_gross, 5, tM), (n_time, 5, tH), (n_w, 2, tR), (n_s, 2, t0), (n_r1, 3, tR), (n_r2, 3, tM), (n_r3, 3, tB), (n_r4, 3, t0), (n_a, 4, t0), (n_b, 4, t0)]
def neds : List ByteArray := [n_h, n_g, n_f, n_gross, n_time, n_w, n_s, n_r1, n_r2, n_r3, n_r4, n_a]
structure GD (hh : Nat) (d : Df) : Prop where
  tab : (d.nm, d.kind, d.ty) ∈ tabL
  df : defS d = true
  bd : BdD d
  wt : d.kind = 3 ∨ d.kind = 4 → EOk hh (tyD d) d.body
  dy : d.kind = 3 → d.day = 20454 ∨ d.day = 20459
structure AGood (hh : Nat) (l : List Df) : Prop where
  all : ∀ d, d ∈ l → GD hh d
  key : (l.map fun d => (d.nm.toList, d.day)).Nodup
  has : ∀ n, n ∈ neds → n ∈ l.map Df.nm
  len : l.length ≤ 30
theorem tab_one : ∀ a, a ∈ tabL → ∀ b, b ∈ tabL → a.1.toList = b.1.toList → a.2 = b.2 := by decide +kernel
theorem tab_nm : ∀ a, a ∈ tabL → nameS a.1 = true := by decide +kernel
theorem ba_loop (bs : ByteArray) : ∀ k i r, bs.size - i = k → ByteArray.toList.loop bs i r = r.reverse ++ bs.data.toList.drop i := by
  intro k
  induction k with
  | zero =>
    intro i r h
    rw [ByteArray.toList.loop, if_neg (by omega), List.drop_eq_nil_of_le (by simp only [Array.length_toList]; show bs.data.size ≤ i; have : bs.size = bs.data.size := rfl; omega)]
    simp
  | succ k ih =>
    intro i r h
    rw [ByteArray.toList.loop, if_pos (by omega), ih _ _ (by omega)]
    have hi : i < bs.data.toList.length := by simp only [Array.length_toList]; have : bs.size = bs.data.size := rfl; omega
    rw [List.drop_eq_getElem_cons hi]
    simp only [List.reverse_cons, List.append_assoc, List.singleton_append]
    congr 2
    have hi2 : i < bs.data.size := by simpa using hi
    show bs.data[i]! = _
    rw [getElem!_pos bs.data i hi2]; simp
theorem ba_eq {a b : ByteArray} (h : a.toList = b.toList) : a = b := by
  unfold ByteArray.toList at h
  rw [ba_loop _ _ 0 [] rfl, ba_loop _ _ 0 [] rfl] at h
  simp at h
  cases a; cases b
  simp only at h
  rw [h]
theorem find_good {l : List Df} {nm : ByteArray} {k : Int} {t : Ty} (p : Df → Bool) (hall : ∀ d, d ∈ l → (d.nm, d.kind, d.ty) ∈ tabL) (ht : (nm, k, t) ∈ tabL) (hp : ∀ d, d ∈ l → d.kind = k → p d = true) (hm : nm ∈ l.map Df.nm) : findS (l.filter p) nm = (if k = 4 then tM else t, 0) := by
  induction l with
  | nil => simp at hm
  | cons d l ih =>
    have hd := hall d (List.mem_cons_self ..)
    by_cases hn : d.nm.toList = nm.toList
    · have := tab_one _ hd _ ht hn
      simp only [Prod.mk.injEq] at this
      rw [List.filter_cons_of_pos (hp d (List.mem_cons_self ..) this.1)]
      unfold findS
      rw [if_pos hn, this.1, this.2]
      split <;> rfl
    · have hm' : nm ∈ l.map Df.nm := by
        rw [List.map_cons, List.mem_cons] at hm
        rcases hm with rfl | hm
        · exact absurd rfl hn
        · exact hm
      have ih' := ih (fun d' hd' => hall d' (List.mem_cons_of_mem _ hd')) (fun d' hd' => hp d' (List.mem_cons_of_mem _ hd')) hm'
      cases hpd : p d
      · rw [List.filter_cons_of_neg (by simp [hpd])]; exact ih'
      · rw [List.filter_cons_of_pos hpd]
        unfold findS
        rw [if_neg hn]; exact ih'
theorem mm {P : Prop} (h : P := by (first | unfold tabL | unfold neds); repeat' (first | exact List.Mem.head _ | refine List.Mem.tail _ ?_)) : P := h
theorem env_good {l : List Df} (hall : ∀ d, d ∈ l → (d.nm, d.kind, d.ty) ∈ tabL) (has : ∀ n, n ∈ neds → n ∈ l.map Df.nm) : Env (l.filter isNm) (l.filter isSc) (l.filter isPa) := by
  have hN : ∀ {nm : ByteArray} {k : Int} {t : Ty}, k = 1 ∨ k = 3 ∨ k = 4 → (nm, k, t) ∈ tabL → nm ∈ neds → findS (l.filter isNm) nm = (if k = 4 then tM else t, 0) := fun hk ht hn => find_good isNm hall ht (fun d _ hd => by simp [isNm, hd, hk]) (has _ hn)
  have hS : ∀ {nm : ByteArray} {t : Ty}, (nm, (2 : Int), t) ∈ tabL → nm ∈ neds → findS (l.filter isSc) nm = (t, 0) := fun ht hn => find_good isSc hall ht (fun d _ hd => by simp [isSc, hd]) (has _ hn)
  have hP : ∀ {nm : ByteArray} {t : Ty}, (nm, (5 : Int), t) ∈ tabL → nm ∈ neds → findS (l.filter isPa) nm = (t, 0) := fun ht hn => find_good isPa hall ht (fun d _ hd => by simp [isPa, hd]) (has _ hn)
  exact ⟨hN (k := 1) (t := tH) (by decide) mm mm, hN (k := 1) (t := t0) (by decide) mm mm, hN (k := 1) (t := tB) (by decide) mm mm, hN (k := 3) (t := tR) (by decide) mm mm, hN (k := 3) (t := tM) (by decide) mm mm, hN (k := 3) (t := tB) (by decide) mm mm, hN (k := 3) (t := t0) (by decide) mm mm, hN (k := 4) (t := t0) (by decide) mm mm, hS mm mm, hS mm mm, hP mm mm, hP mm mm⟩
theorem agreeS_self (t : Ty) : agreeS t t = 0 := by
  unfold agreeS
  rw [if_neg (by simp), if_neg (by simp)]
theorem body_good {hh : Nat} {l : List Df} {d : Df} {t : Ty} (hE : Env (l.filter isNm) (l.filter isSc) (l.filter isPa)) (he : EOk hh t d.body) (h32 : hh ≤ 32) (ht : tyD d = t) : bodyS (l.filter isNm) (l.filter isSc) (l.filter isPa) d = 0 := by
  unfold bodyS
  rw [he.wt _ _ _ hE 32 h32, ht]
  simp [agreeS_self]
theorem coll_no {a b : Df} (ha : (a.nm, a.kind, a.ty) ∈ tabL) (hb : (b.nm, b.kind, b.ty) ∈ tabL) (hk : ¬ (a.nm.toList = b.nm.toList ∧ a.day = b.day)) (h1 : a.kind = 1 → a.day = 0) (h2 : b.kind = 1 → b.day = 0) (h5 : a.kind = 5 → a.day = 0) (h6 : b.kind = 5 → b.day = 0) : collS a b = false := by
  unfold collS
  cases hn : (a.nm.toList == b.nm.toList)
  · rfl
  · rw [beq_iff_eq] at hn
    have := tab_one _ ha _ hb hn
    simp only [Prod.mk.injEq] at this
    have hd : ¬ a.day = b.day := fun h => hk ⟨hn, h⟩
    have e5 : ¬ (a.kind = 5 ∨ b.kind = 5) := by
      rintro (h | h)
      · exact hd ((h5 h).trans (h6 (this.1 ▸ h)).symm)
      · exact hd ((h5 (this.1.trans h)).trans (h6 h).symm)
    have e1 : ¬ a.kind = 1 := fun h => hd ((h1 h).trans (h2 (this.1 ▸ h)).symm)
    rw [if_neg e5]
    simp [this.1, hd, tyD, this.2]
    rw [← this.1]; exact e1
theorem day0 {d : Df} (h : defS d = true) (hk : d.kind = 1 ∨ d.kind = 5) : d.day = 0 := by
  rcases hk with hk | hk <;> simp [defS, hk] at h
  · exact h.2.1
  · exact h.2.1
theorem lF_take {l : List Df} {n : Nat} (hn : n < l.length) : lF dD l n = l[n] := by unfold lF; rw [List.getD_eq_getElem?_getD, List.getElem?_eq_getElem hn]; rfl
theorem mem_take_get {l : List Df} {n : Nat} {b : Df} (hb : b ∈ l.take n) : ∃ i, ∃ hi : i < l.length, i < n ∧ l[i] = b := by
  obtain ⟨i, hi, he⟩ := List.getElem_of_mem hb
  simp only [List.length_take] at hi
  refine ⟨i, by omega, by omega, ?_⟩
  rw [← he, List.getElem_take]
theorem err_good {hh : Nat} {l : List Df} (hall : ∀ d, d ∈ l → GD hh d) (hkey : (l.map fun d => (d.nm.toList, d.day)).Nodup) (hE : Env (l.filter isNm) (l.filter isSc) (l.filter isPa)) (h32 : hh ≤ 32) (hpast : ∀ n, n ∈ l → isNm n = true → ∀ d, d ∈ l → d.kind = 5 → n.nm.toList ≠ d.nm.toList) {n : Nat} (hn : n < l.length) : errD l (l.take n) (lF dD l n) = 0 := by
  rw [lF_take hn]
  have hm : l[n] ∈ l := List.getElem_mem hn
  have hd := hall _ hm
  unfold errD
  have h0 : (l.take n).any (fun b => collS b l[n]) = false := by
    rw [Bool.eq_false_iff]
    intro h
    obtain ⟨b, hb, hc⟩ := List.any_eq_true.1 h
    obtain ⟨i, hi, hin, rfl⟩ := mem_take_get hb
    have hib := hall _ (List.getElem_mem hi)
    have hne := List.pairwise_iff_getElem.1 hkey i n (by simpa using hi) (by simpa using hn) hin
    simp only [List.getElem_map] at hne
    rw [coll_no hib.tab hd.tab (fun ⟨a, b⟩ => hne (by rw [a, b])) (fun h => day0 hib.df (.inl h)) (fun h => day0 hd.df (.inl h)) (fun h => day0 hib.df (.inr h)) (fun h => day0 hd.df (.inr h))] at hc
    cases hc
  rw [h0, if_neg (by simp)]
  by_cases h5 : l[n].kind = 5
  · rw [if_pos h5]
    unfold pastS
    have : (l.filter isNm).find? (fun x => x.nm.toList == l[n].nm.toList) = none := by
      rw [List.find?_eq_none]
      intro x hx
      rw [List.mem_filter] at hx
      simpa using hpast x hx.1 hx.2 _ hm h5
    rw [this]
  · rw [if_neg h5]
    split
    · rename_i h34
      exact body_good hE (hd.wt h34) h32 rfl
    · rfl
theorem probS_nil {l : List Df} : ∀ (n : Nat), (∀ i, i < n → errD l (l.take i) (lF dD l i) = 0) → probS l n = []
  | 0, _ => rfl
  | n + 1, h => by
    unfold probS
    rw [if_pos (h n (by omega))]
    exact probS_nil n fun i hi => h i (by omega)
theorem AGood.env {hh : Nat} {l : List Df} (h : AGood hh l) : Env (l.filter isNm) (l.filter isSc) (l.filter isPa) := env_good (fun d hd => (h.all d hd).tab) h.has
theorem AGood.past {hh : Nat} {l : List Df} (h : ∀ d, d ∈ l → GD hh d) : ∀ n, n ∈ l → isNm n = true → ∀ d, d ∈ l → d.kind = 5 → n.nm.toList ≠ d.nm.toList := fun n hn hi d hd h5 he => by
  have := tab_one _ (h n hn).tab _ (h d hd).tab he
  simp only [Prod.mk.injEq] at this
  simp [isNm, this.1, h5] at hi
theorem AGood.chk {hh : Nat} {l : List Df} (h : AGood hh l) (h32 : hh ≤ 32) {nm : ByteArray} (hnm : nameS nm = true) : chkL nm l = ([], 0) := by
  unfold chkL
  have ha : agrS nm l = true := by
    unfold agrS
    have := h.len
    rw [hnm, decide_eq_true (by omega : l.length ≤ 128), List.all_eq_true.2 fun d hd => by rw [tab_nm _ (h.all d hd).tab, (h.all d hd).df]; rfl]
    rfl
  rw [if_pos ha, probS_nil _ fun i hi => err_good h.all h.key h.env h32 (AGood.past h.all) hi]
theorem AGood.perm {hh : Nat} {l l' : List Df} (h : AGood hh l) (hp : l.Perm l') : AGood hh l' :=
  ⟨fun d hd => h.all d (hp.mem_iff.2 hd), (hp.map _).nodup_iff.1 h.key, fun n hn => (hp.map _).mem_iff.1 (h.has n hn), by rw [← hp.length_eq]; exact h.len⟩
end Go.Proofs.YtcghpepighboaaaDoor
