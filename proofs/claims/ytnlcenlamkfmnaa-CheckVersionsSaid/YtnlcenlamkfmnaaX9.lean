/- Made expressions (plain): which are valid, and of a type. -/
import Derived.Test.YtnlcenlamkfmnaaX0c
import Derived.Test.YtnlcenlamkfmnaaPvTap
set_option linter.unusedSimpArgs false
set_option linter.unusedVariables false
set_option maxRecDepth 100000
namespace Go.Proofs.Ytnlcenlamkfmnaa
abbrev tH : Ty := ⟨false, 0, 1, 0⟩
abbrev tR : Ty := ⟨false, 1, -1, 0⟩
abbrev n_h : ByteArray := ⟨#[104]⟩
abbrev n_g : ByteArray := ⟨#[103]⟩
abbrev n_f : ByteArray := ⟨#[102]⟩
abbrev n_r1 : ByteArray := ⟨#[114, 49]⟩
abbrev n_r2 : ByteArray := ⟨#[114, 50]⟩
abbrev n_r3 : ByteArray := ⟨#[114, 51]⟩
abbrev n_r4 : ByteArray := ⟨#[114, 52]⟩
abbrev n_a : ByteArray := ⟨#[97]⟩
abbrev n_b : ByteArray := ⟨#[98]⟩
abbrev n_w : ByteArray := ⟨#[119]⟩
abbrev n_s : ByteArray := ⟨#[115]⟩
abbrev n_gross : ByteArray := ⟨#[103, 114, 111, 115, 115]⟩
abbrev n_time : ByteArray := ⟨#[116, 105, 109, 101]⟩
/-- what made expressions refer to -/
structure Env (N S P : List Df) : Prop where
  h : findS N n_h = (tH, 0)
  g : findS N n_g = (t0, 0)
  f : findS N n_f = (tB, 0)
  r1 : findS N n_r1 = (tR, 0)
  r2 : findS N n_r2 = (tM, 0)
  r3 : findS N n_r3 = (tB, 0)
  r4 : findS N n_r4 = (t0, 0)
  a : findS N n_a = (tM, 0)
  w : findS S n_w = (tR, 0)
  s : findS S n_s = (t0, 0)
  gross : findS P n_gross = (tM, 0)
  time : findS P n_time = (tH, 0)
/-- an expression of at most this height, of this type -/
structure EOk (h : Nat) (t : Ty) (e : Ex) : Prop where
  bd : Bd e
  vl : ∀ n, h ≤ n → validS n e = true
  wt : ∀ N S P, Env N S P → ∀ n, h ≤ n → typeS N S P n e = (t, 0)
theorem EOk.mono {h h' : Nat} {t : Ty} {e : Ex} (H : EOk h t e) (hh : h ≤ h') : EOk h' t e := ⟨H.bd, fun n hn => H.vl n (by omega), fun N S P hE n hn => H.wt N S P hE n (by omega)⟩
theorem EOk.node {h : Nat} {t : Ty} {op vn vd um uh ud : Int} {nm : ByteArray} {cnt mode : Int} {nk : Nat} {kf : Nat → Ex} (τ : Nat → Ty) (hb : -9223372036854775808 ≤ vn ∧ vn ≤ 9223372036854775807 ∧ nm.size ≤ 9223372036854775807) (hk : (nk : Int) = kidsN op) (hf : fieldS (.mk op vn vd um uh ud nm cnt mode nk kf) = true) (hkid : ∀ i, i < nk → EOk h (τ i) (kf i))
    (ho : ∀ N S P, Env N S P → opS N S P (.mk op vn vd um uh ud nm cnt mode nk kf) (if 0 < nk then τ 0 else t0) (if 1 < nk then τ 1 else t0) (if 2 < nk then τ 2 else t0) = (t, 0)) : EOk (h + 1) t (.mk op vn vd um uh ud nm cnt mode nk kf) := by
  refine ⟨.mk hb fun i hi => (hkid i hi).bd, fun n hn => ?_, fun N S P hE n hn => ?_⟩
  · obtain ⟨m, rfl⟩ : ∃ m, n = m + 1 := ⟨n - 1, by omega⟩
    have e1 : decide (((nk : Nat) : Int) = kidsN op) = true := decide_eq_true hk
    show (decide (((nk : Nat) : Int) = kidsN op) && (fieldS _ && allK nk (fun i => validS m (kf i)))) = true
    rw [e1, hf, allK_iff.2 fun i hi => (hkid i hi).vl m (by omega)]; rfl
  · obtain ⟨m, rfl⟩ : ∃ m, n = m + 1 := ⟨n - 1, by omega⟩
    have hT : ∀ i, typeS N S P m ((Ex.mk op vn vd um uh ud nm cnt mode nk kf).kf i) = (fun i => typeS N S P m (kf i)) i := fun _ => rfl
    have h3 : nk ≤ 3 := by have := kidsN_le op; omega
    obtain ⟨_, h2⟩ := typeS_succ N S P m _ hT h3
    have hz : ∀ j, j < nk → typeS N S P m (kf j) = (τ j, 0) := fun j hj => (hkid j hj).wt N S P hE m (by omega)
    rw [h2 (fun j hj => by show (typeS N S P m (kf j)).2 = 0; rw [hz j hj])]
    have hkt : ∀ j, kt (fun i => typeS N S P m (kf i)) nk j = if j < nk then τ j else t0 := fun j => by
      unfold kt
      by_cases hj : j < nk
      · rw [if_pos hj, if_pos hj]; show (typeS N S P m (kf j)).1 = _; rw [hz j hj]
      · rw [if_neg hj, if_neg hj]
    show opS N S P _ (kt _ nk 0) (kt _ nk 1) (kt _ nk 2) = _
    rw [hkt, hkt, hkt]
    exact ho N S P hE
def k1 (a : Ex) (_ : Nat) : Ex := a
def k2 (a b : Ex) (i : Nat) : Ex := if i = 0 then a else b
def k3 (a b c : Ex) (i : Nat) : Ex := if i = 0 then a else if i = 1 then b else c
def kn (_ : Nat) : Ex := .nil
/-- nodes -/
abbrev eOp (op : Int) (nk : Nat) (kf : Nat → Ex) : Ex := .mk op 0 0 0 0 0 ⟨#[]⟩ 0 0 nk kf
abbrev eNm (op : Int) (nm : ByteArray) (nk : Nat) (kf : Nat → Ex) : Ex := .mk op 0 0 0 0 0 nm 0 0 nk kf
/-- a name that made expressions use is one -/
theorem names_ok19 : nameS n_h = true ∧ nameS n_g = true ∧ nameS n_f = true ∧ nameS n_r1 = true ∧ nameS n_r2 = true ∧ nameS n_r3 = true ∧ nameS n_r4 = true ∧ nameS n_a = true ∧ nameS n_b = true ∧ nameS n_w = true ∧ nameS n_s = true ∧ nameS n_gross = true ∧ nameS n_time = true := by
  refine ⟨?_, ?_, ?_, ?_, ?_, ?_, ?_, ?_, ?_, ?_, ?_, ?_, ?_⟩ <;> decide +kernel
theorem ok_name {nm : ByteArray} {t : Ty} (h1 : nameS nm = true) (h2 : nm.size ≤ 100) (h3 : ∀ N S P, Env N S P → findS N nm = (t, 0)) : EOk 1 t (eNm 3 nm 0 kn) :=
  EOk.node (h := 0) (fun _ => t0) ⟨by show (-9223372036854775808 : Int) ≤ 0; decide, by show (0 : Int) ≤ 9223372036854775807; decide, by omega⟩ rfl (by simp [fieldS, Ex.op, Ex.vn, Ex.vd, Ex.um, Ex.uh, Ex.ud, Ex.nm, Ex.cnt, Ex.mode, h1]) (fun i hi => by omega) (fun N S P hE => by show findS N nm = _; exact h3 N S P hE)
theorem ok_past {op : Int} {nm : ByteArray} {t : Ty} {c : Int} (hop : op = 20 ∨ op = 21) (h1 : nameS nm = true) (h2 : nm.size ≤ 100) (hc : 1 ≤ c ∧ c ≤ 120) (h3 : ∀ N S P, Env N S P → findS P nm = (t, 0)) : EOk 1 t (.mk op 0 0 0 0 0 nm c 0 0 kn) := by
  refine EOk.node (h := 0) (fun _ => t0) ⟨by decide, by decide, by omega⟩ ?_ ?_ (fun i hi => by omega) (fun N S P hE => ?_)
  · rcases hop with rfl | rfl <;> rfl
  · rcases hop with rfl | rfl <;> simp [fieldS, Ex.op, Ex.vn, Ex.vd, Ex.um, Ex.uh, Ex.ud, Ex.nm, Ex.cnt, Ex.mode, h1, hc]
  · rcases hop with rfl | rfl <;> exact h3 N S P hE
theorem ok_truth {c : Int} (hc : c = 0 ∨ c = 1) : EOk 1 tB (.mk 2 0 0 0 0 0 ⟨#[]⟩ c 0 0 kn) := by
  refine EOk.node (h := 0) (fun _ => t0) ⟨by decide, by decide, by decide⟩ rfl ?_ (fun i hi => by omega) (fun N S P hE => rfl)
  rcases hc with rfl | rfl <;> simp [fieldS, Ex.op, Ex.vn, Ex.vd, Ex.um, Ex.uh, Ex.ud, Ex.nm, Ex.cnt, Ex.mode] <;> rfl
/-- the numbers that stand in texts -/
def decL : List (Int × Int) := [(1, 1), (2, 1), (0, 1), (5, 2), (1, 4), (76, 5), (40, 1), (1, 100), (3, 1), (100, 1)]
theorem ok_num {x : Int × Int} {m h d : Int} (hx : x ∈ decL) (hu : unitS m h d = true) : EOk 1 ⟨false, m, h, d⟩ (.mk 1 x.1 x.2 m h d ⟨#[]⟩ 0 0 0 kn) := by
  have key : ∀ x ∈ decL, -9223372036854775808 ≤ x.1 ∧ x.1 ≤ 9223372036854775807 ∧ decS x.1 x.2 = true := by decide +kernel
  obtain ⟨k1, k2, k3⟩ := key x hx
  refine EOk.node (h := 0) (fun _ => t0) ⟨k1, k2, by decide⟩ rfl ?_ (fun i hi => by omega) (fun N S P hE => rfl)
  simp [fieldS, Ex.op, Ex.vn, Ex.vd, Ex.um, Ex.uh, Ex.ud, Ex.nm, Ex.cnt, Ex.mode, k3, hu]
/-- operators whose other fields are zero -/
theorem ok_op {h : Nat} {t : Ty} {op : Int} {nk : Nat} {kf : Nat → Ex} (τ : Nat → Ty) (hop : 5 ≤ op ∧ op ≤ 18) (hk : (nk : Int) = kidsN op) (hkid : ∀ i, i < nk → EOk h (τ i) (kf i))
    (ho : ∀ N S P, opS N S P (eOp op nk kf) (if 0 < nk then τ 0 else t0) (if 1 < nk then τ 1 else t0) (if 2 < nk then τ 2 else t0) = (t, 0)) : EOk (h + 1) t (eOp op nk kf) := by
  refine EOk.node τ ⟨by decide, by decide, by decide⟩ hk ?_ hkid (fun N S P _ => ho N S P)
  have e1 : ¬ op = 1 := by omega
  have e2 : ¬ op = 2 := by omega
  have e3 : ¬ op = 3 := by omega
  have e4 : ¬ op = 4 := by omega
  have e5 : ¬ op = 19 := by omega
  have e6 : ¬ op = 20 := by omega
  have e7 : ¬ op = 21 := by omega
  simp [fieldS, Ex.op, Ex.vn, Ex.vd, Ex.um, Ex.uh, Ex.ud, Ex.nm, Ex.cnt, Ex.mode, e1, e2, e3, e4, e5, e6, e7]
theorem ok_two {h : Nat} {t ta tb : Ty} {op : Int} {a b : Ex} (hop : 5 ≤ op ∧ op ≤ 15) (ha : EOk h ta a) (hb : EOk h tb b) (ho : ∀ N S P, opS N S P (eOp op 2 (k2 a b)) ta tb t0 = (t, 0)) : EOk (h + 1) t (eOp op 2 (k2 a b)) := by
  refine ok_op (fun i => if i = 0 then ta else tb) ⟨hop.1, by omega⟩ ?_ (fun i hi => ?_) ho
  · unfold kidsN; rw [if_neg (by omega), if_neg (by omega), if_pos hop]; rfl
  · rcases (by omega : i = 0 ∨ i = 1) with rfl | rfl
    · exact ha
    · exact hb
theorem ok_one {h : Nat} {t ta : Ty} {op : Int} {a : Ex} (hop : op = 16 ∨ op = 17) (ha : EOk h ta a) (ho : ∀ N S P, opS N S P (eOp op 1 (k1 a)) ta t0 t0 = (t, 0)) : EOk (h + 1) t (eOp op 1 (k1 a)) := by
  refine ok_op (fun _ => ta) ⟨by omega, by omega⟩ ?_ (fun i hi => ha) ho
  rcases hop with rfl | rfl <;> rfl
theorem ok_if {h : Nat} {t : Ty} {a b c : Ex} (ha : EOk h tB a) (hb : EOk h t b) (hc : EOk h t c) : EOk (h + 1) t (eOp 18 3 (k3 a b c)) := by
  refine ok_op (fun i => if i = 0 then tB else t) ⟨by decide, by decide⟩ rfl (fun i hi => ?_) (fun N S P => ?_)
  · rcases (by omega : i = 0 ∨ i = 1 ∨ i = 2) with rfl | rfl | rfl
    · exact ha
    · exact hb
    · exact hc
  · obtain ⟨tb, tm, th, td⟩ := t
    cases tb <;> simp [opS, Ex.op, resS, equS]
theorem ok_scale {h : Nat} {t : Ty} {nm : ByteArray} {a : Ex} (h1 : nameS nm = true) (h2 : nm.size ≤ 100) (ha : EOk h t0 a) (h3 : ∀ N S P, Env N S P → findS S nm = (t, 0)) : EOk (h + 1) t (eNm 4 nm 1 (k1 a)) := by
  refine EOk.node (fun _ => t0) ⟨by decide, by decide, by omega⟩ rfl ?_ (fun i hi => ha) (fun N S P hE => ?_)
  · simp [fieldS, Ex.op, Ex.vn, Ex.vd, Ex.um, Ex.uh, Ex.ud, Ex.nm, Ex.cnt, Ex.mode, h1]
  · have := h3 N S P hE
    simp [opS, Ex.op, Ex.nm, this, resS, equS]
theorem ok_round {h : Nat} {t : Ty} {x : Int × Int} {mode : Int} {a : Ex} (hx : x ∈ [((1 : Int), (1 : Int)), (1, 100), (1, 4)]) (hm : 0 ≤ mode ∧ mode ≤ 6) (ht : t.b = false) (hu : unitS t.m t.h t.d = true) (ha : EOk h t a) : EOk (h + 1) t (.mk 19 x.1 x.2 t.m t.h t.d ⟨#[]⟩ 0 mode 1 (k1 a)) := by
  have key : ∀ x ∈ [((1 : Int), (1 : Int)), (1, 100), (1, 4)], -9223372036854775808 ≤ x.1 ∧ x.1 ≤ 9223372036854775807 ∧ decS x.1 x.2 = true ∧ 0 < x.1 := by decide +kernel
  obtain ⟨k1', k2', k3', k4'⟩ := key x hx
  refine EOk.node (fun _ => t) ⟨k1', k2', by decide⟩ rfl ?_ (fun i hi => ha) (fun N S P hE => ?_)
  · have : modeB mode = true := by simp [modeB]; omega
    simp [fieldS, Ex.op, Ex.vn, Ex.vd, Ex.um, Ex.uh, Ex.ud, Ex.nm, Ex.cnt, Ex.mode, k3', k4', hu, this]
  · obtain ⟨tb, tm, th, td⟩ := t
    have ht : tb = false := ht
    subst ht
    simp [opS, Ex.op, Ex.um, Ex.uh, Ex.ud, resS, equS]
end Go.Proofs.Ytnlcenlamkfmnaa
