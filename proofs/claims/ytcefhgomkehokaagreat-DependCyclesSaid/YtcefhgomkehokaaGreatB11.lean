/- Made expressions (plain): which are valid, and of a type. -/
import Derived.Test.YtcefhgomkehokaaGreatB07
import Derived.Test.YtcefhgomkehokaaGreatB08
import Derived.Test.YtcefhgomkehokaaGreatB10
set_option linter.unusedSimpArgs false
set_option linter.unusedVariables false
set_option maxRecDepth 100000
namespace Go.Proofs.YtcefhgomkehokaaGreat
abbrev tH : Ty := ⟨false, 0, 1, 0⟩
abbrev tR : Ty := ⟨false, 1, -1, 0⟩
abbrev n_h : ByteArray := ⟨#[104]⟩
abbrev n_g : ByteArray := ⟨#[103]⟩
abbrev n_f : ByteArray := ⟨#[102]⟩
abbrev n_r1 : ByteArray := ⟨#[114, 49]⟩
abbrev n_r2 : ByteArray := ⟨#[114, 50]⟩
abbrev n_r3 : ByteArray := ⟨#[114, 51]⟩
abbrev n_r4 : ByteArray := ⟨#[114, 52]⟩
abbrev n_a : ByteArray := ⟨#[97]⟩
abbrev n_b : ByteArray := ⟨#[98]⟩
abbrev n_w : ByteArray := ⟨#[119]⟩
abbrev n_s : ByteArray := ⟨#[115]⟩
abbrev n_gross : ByteArray := ⟨#[103, 114, 111, 115, 115]⟩
abbrev n_time : ByteArray := ⟨#[116, 105, 109, 101]⟩
structure Env (N S P : List Df) : Prop where
  h : findS N n_h = (tH, 0)
  g : findS N n_g = (t0, 0)
  f : findS N n_f = (tB, 0)
  r1 : findS N n_r1 = (tR, 0)
  r2 : findS N n_r2 = (tM, 0)
  r3 : findS N n_r3 = (tB, 0)
  r4 : findS N n_r4 = (t0, 0)
  a : findS N n_a = (tM, 0)
  w : findS S n_w = (tR, 0)
  s : findS S n_s = (t0, 0)
  gross : findS P n_gross = (tM, 0)
  time : findS P n_time = (tH, 0)
def decL : List (Int × Int) := [(1, 1), (2, 1), (0, 1), (5, 2), (1, 4), (76, 5), (40, 1), (1, 100), (3, 1), (100, 1)]
inductive Lit : Ex → Prop where
  | mk {op vn vd um uh ud : Int} {nm : ByteArray} {cnt mode : Int} {nk : Nat} {kf : Nat → Ex} (h : op = 1 ∨ op = 19 → (vn, vd) ∈ decL) (hk : ∀ i, i < nk → Lit (kf i)) : Lit (.mk op vn vd um uh ud nm cnt mode nk kf)
def nms3 : List ByteArray := [n_h, n_g, n_f, n_r1, n_r2, n_r3, n_r4, n_a]
def rank (nm : ByteArray) : Int := if nm.toList = n_r1.toList then 1 else if nm.toList = n_r2.toList then 2 else if nm.toList = n_r3.toList then 3 else if nm.toList = n_r4.toList then 4 else if nm.toList = n_a.toList then 4 else if nm.toList = n_b.toList then 5 else 0
def RkN (ρ op : Int) (nm : ByteArray) : Prop := (op = 3 → nm ∈ nms3 ∧ (rank nm = 0 ∨ rank nm < ρ)) ∧ (op = 4 → nm = n_w ∨ nm = n_s)
inductive Rk (ρ : Int) : Ex → Prop where
  | mk {op vn vd um uh ud : Int} {nm : ByteArray} {cnt mode : Int} {nk : Nat} {kf : Nat → Ex} (h : RkN ρ op nm) (hk : ∀ i, i < nk → Rk ρ (kf i)) : Rk ρ (.mk op vn vd um uh ud nm cnt mode nk kf)
theorem RkN.no {ρ op : Int} {nm : ByteArray} (h3 : op ≠ 3) (h4 : op ≠ 4) : RkN ρ op nm := ⟨fun h => absurd h h3, fun h => absurd h h4⟩
theorem RkN.mono {ρ ρ' op : Int} {nm : ByteArray} (h : RkN ρ op nm) (hr : ρ ≤ ρ') : RkN ρ' op nm := ⟨fun e => ⟨(h.1 e).1, (h.1 e).2.imp id fun h => by omega⟩, h.2⟩
theorem Rk.mono {ρ ρ' : Int} (hr : ρ ≤ ρ') {e : Ex} (h : Rk ρ e) : Rk ρ' e := by
  induction h with
  | mk h hk ih => exact .mk (h.mono hr) ih
theorem RkN.nm {ρ : Int} {nm : ByteArray} {k : Int} (hm : nm ∈ nms3) (hr : rank nm = k) (hk : k = 0 ∨ k < ρ) : RkN ρ 3 nm := ⟨fun _ => ⟨hm, by rw [hr]; exact hk⟩, fun h => absurd h (by decide)⟩
structure EOk (ρ : Int) (h : Nat) (t : Ty) (e : Ex) : Prop where
  bd : Bd e
  vl : ∀ n, h ≤ n → validS n e = true
  wt : ∀ N S P, Env N S P → ∀ n, h ≤ n → typeS N S P n e = (t, 0)
  lit : Lit e
  rk : Rk ρ e
theorem EOk.mono {ρ : Int} {h h' : Nat} {t : Ty} {e : Ex} (H : EOk ρ h t e) (hh : h ≤ h') : EOk ρ h' t e := ⟨H.bd, fun n hn => H.vl n (by omega), fun N S P hE n hn => H.wt N S P hE n (by omega), H.lit, H.rk⟩
theorem EOk.up {ρ ρ' : Int} {h : Nat} {t : Ty} {e : Ex} (H : EOk ρ h t e) (hr : ρ ≤ ρ') : EOk ρ' h t e := ⟨H.bd, H.vl, H.wt, H.lit, H.rk.mono hr⟩
theorem EOk.node {ρ : Int} {h : Nat} {t : Ty} {op vn vd um uh ud : Int} {nm : ByteArray} {cnt mode : Int} {nk : Nat} {kf : Nat → Ex} (τ : Nat → Ty) (hb : -9223372036854775808 ≤ vn ∧ vn ≤ 9223372036854775807 ∧ nm.size ≤ 9223372036854775807) (hk : (nk : Int) = kidsN op) (hf : fieldS (.mk op vn vd um uh ud nm cnt mode nk kf) = true) (hkid : ∀ i, i < nk → EOk ρ h (τ i) (kf i))
    (ho : ∀ N S P, Env N S P → opS N S P (.mk op vn vd um uh ud nm cnt mode nk kf) (if 0 < nk then τ 0 else t0) (if 1 < nk then τ 1 else t0) (if 2 < nk then τ 2 else t0) = (t, 0)) (hl : op = 1 ∨ op = 19 → (vn, vd) ∈ decL) (hr : RkN ρ op nm) : EOk ρ (h + 1) t (.mk op vn vd um uh ud nm cnt mode nk kf) := by
  refine ⟨.mk hb fun i hi => (hkid i hi).bd, fun n hn => ?_, fun N S P hE n hn => ?_, .mk hl fun i hi => (hkid i hi).lit, .mk hr fun i hi => (hkid i hi).rk⟩
  · obtain ⟨m, rfl⟩ : ∃ m, n = m + 1 := ⟨n - 1, by omega⟩
    have e1 : decide (((nk : Nat) : Int) = kidsN op) = true := decide_eq_true hk
    show (decide (((nk : Nat) : Int) = kidsN op) && (fieldS _ && allK nk (fun i => validS m (kf i)))) = true
    rw [e1, hf, allK_iff.2 fun i hi => (hkid i hi).vl m (by omega)]; rfl
  · obtain ⟨m, rfl⟩ : ∃ m, n = m + 1 := ⟨n - 1, by omega⟩
    have hT : ∀ i, typeS N S P m ((Ex.mk op vn vd um uh ud nm cnt mode nk kf).kf i) = (fun i => typeS N S P m (kf i)) i := fun _ => rfl
    have h3 : nk ≤ 3 := by have := kidsN_le op; omega
    obtain ⟨_, h2⟩ := typeS_succ N S P m _ hT h3
    have hz : ∀ j, j < nk → typeS N S P m (kf j) = (τ j, 0) := fun j hj => (hkid j hj).wt N S P hE m (by omega)
    rw [h2 (fun j hj => by show (typeS N S P m (kf j)).2 = 0; rw [hz j hj])]
    have hkt : ∀ j, kt (fun i => typeS N S P m (kf i)) nk j = if j < nk then τ j else t0 := fun j => by
      unfold kt
      by_cases hj : j < nk
      · rw [if_pos hj, if_pos hj]; show (typeS N S P m (kf j)).1 = _; rw [hz j hj]
      · rw [if_neg hj, if_neg hj]
    show opS N S P _ (kt _ nk 0) (kt _ nk 1) (kt _ nk 2) = _
    rw [hkt, hkt, hkt]
    exact ho N S P hE
def k1 (a : Ex) (_ : Nat) : Ex := a
def k2 (a b : Ex) (i : Nat) : Ex := if i = 0 then a else b
def k3 (a b c : Ex) (i : Nat) : Ex := if i = 0 then a else if i = 1 then b else c
def kn (_ : Nat) : Ex := .nil
abbrev eOp (op : Int) (nk : Nat) (kf : Nat → Ex) : Ex := .mk op 0 0 0 0 0 ⟨#[]⟩ 0 0 nk kf
abbrev eNm (op : Int) (nm : ByteArray) (nk : Nat) (kf : Nat → Ex) : Ex := .mk op 0 0 0 0 0 nm 0 0 nk kf
def tabL : List (ByteArray × Int × Ty) := [(n_h, 1, tH), (n_g, 1, t0), (n_f, 1, tB), (n_gross, 5, tM), (n_time, 5, tH), (n_w, 2, tR), (n_s, 2, t0), (n_r1, 3, tR), (n_r2, 3, tM), (n_r3, 3, tB), (n_r4, 3, t0), (n_a, 4, t0), (n_b, 4, t0)]
def neds : List ByteArray := [n_h, n_g, n_f, n_gross, n_time, n_w, n_s, n_r1, n_r2, n_r3, n_r4, n_a]
def rhoD (wild : Bool) (nm : ByteArray) : Int := if wild = true then 5 else rank nm
def KS : List (ByteArray × Int) := [(n_h, 0), (n_g, 0), (n_f, 0), (n_gross, 0), (n_time, 0), (n_w, 20454), (n_s, 20454), (n_w, 20459), (n_r1, 20454), (n_r1, 20459), (n_r2, 20454), (n_r2, 20459), (n_r3, 20454), (n_r3, 20459), (n_r4, 20454), (n_r4, 20459), (n_a, 20454), (n_b, 20454)]
def keyD (d : Df) : ByteArray × Int := (d.nm, d.day)
structure GD (wild : Bool) (hh : Nat) (d : Df) : Prop where
  tab : (d.nm, d.kind, d.ty) ∈ tabL
  df : defS d = true
  bd : BdD d
  wt : d.kind = 3 ∨ d.kind = 4 → EOk (rhoD wild d.nm) hh (tyD d) d.body
  dy : d.kind = 3 → d.day = 20454 ∨ d.day = 20459
structure AGood (wild : Bool) (hh : Nat) (l : List Df) : Prop where
  all : ∀ d, d ∈ l → GD wild hh d
  key : (l.map fun d => (d.nm.toList, d.day)).Nodup
  has : ∀ n, n ∈ neds → n ∈ l.map Df.nm
  len : l.length ≤ 30
  ks : ∀ d, d ∈ l → keyD d ∈ KS
theorem ba_loop (bs : ByteArray) : ∀ k i r, bs.size - i = k → ByteArray.toList.loop bs i r = r.reverse ++ bs.data.toList.drop i := by
  intro k
  induction k with
  | zero =>
    intro i r h
    rw [ByteArray.toList.loop, if_neg (by omega), List.drop_eq_nil_of_le (by simp only [Array.length_toList]; show bs.data.size ≤ i; have : bs.size = bs.data.size := rfl; omega)]
    simp
  | succ k ih =>
    intro i r h
    rw [ByteArray.toList.loop, if_pos (by omega), ih _ _ (by omega)]
    have hi : i < bs.data.toList.length := by simp only [Array.length_toList]; have : bs.size = bs.data.size := rfl; omega
    rw [List.drop_eq_getElem_cons hi]
    simp only [List.reverse_cons, List.append_assoc, List.singleton_append]
    congr 2
    have hi2 : i < bs.data.size := by simpa using hi
    show bs.data[i]! = _
    rw [getElem!_pos bs.data i hi2]; simp
theorem ba_eq {a b : ByteArray} (h : a.toList = b.toList) : a = b := by
  unfold ByteArray.toList at h
  rw [ba_loop _ _ 0 [] rfl, ba_loop _ _ 0 [] rfl] at h
  simp at h
  cases a; cases b
  simp only at h
  rw [h]
theorem mm {P : Prop} (h : P := by (first | unfold tabL | unfold neds); repeat' (first | exact List.Mem.head _ | refine List.Mem.tail _ ?_)) : P := h
end Go.Proofs.YtcefhgomkehokaaGreat
namespace Go.Proofs.YtcefhgomkehokaaGreat
theorem pop_unguard {G : Pg2} {N : Nat} {Γ : Fr} {st : PSt} {K : Exit → PSt → Prop} {ops : Array Oper} {o : Oper} {rest : List Oper} {j : Nat} {want : Bool} (hg : o.guard = some (j, want)) (hgv : gval ops st j want = some true) (h : POps G.toPg N Γ ops ({ o with guard := none } :: rest) st K) : POps G.toPg N Γ ops (o :: rest) st K := .mk fun ρ I a w hrel => by
  have hw := gval_sound hrel hg hgv
  have h2 := h.go ρ I a w hrel
  have hw2 : Region.wanted { o with guard := none } (yielded ops a.tmps) = true := by simp [Region.wanted]
  simp only [wpList, hw2, hw, if_true] at h2 ⊢
  exact h2
theorem pop_opt {G : Pg2} {N : Nat} {Γ : Fr} {st : PSt} {K : Exit → PSt → Prop} {ops : Array Oper} {l : List Oper} (t : Nat) {g : Bool} {q : PV} (ht : st.get t = .opt g q) (hg : g = true) (h : POps G.toPg N Γ ops l (st.put t q) K) : POps G.toPg N Γ ops l st K := .mk fun ρ I a w hrel => h.go ρ I a w ⟨hrel.fr, hrel.defers, hrel.size, fun s => by
  have hs := hrel.slot s
  show VRel _ ρ I w (look s ((t, q) :: st.tm)) _
  simp only [look]
  cases hb : Nat.beq s t
  · exact hs
  · have e := Nat.eq_of_beq_eq_true hb
    subst e
    rw [ht] at hs
    exact hs.1 hg⟩
theorem argAggL {mem : List Row} {L : List Nat} {n : Nat} {f g : Nat → PV} (h : ∀ i, i < n → ArgOk mem L (f i) (g i)) : ArgOk mem L (.agg n f) (.agg n g) := by
  rintro ρ I w v hm ⟨vs, h1, h2, h3⟩
  exact ⟨vs, h1, h2, fun i hi => ⟨(h3 i hi).1, h i hi ρ I w _ hm (h3 i hi).2⟩⟩
theorem c10 {y : Nat} (h : y < 10) : y = 0 ∨ y = 1 ∨ y = 2 ∨ y = 3 ∨ y = 4 ∨ y = 5 ∨ y = 6 ∨ y = 7 ∨ y = 8 ∨ y = 9 := by omega
end Go.Proofs.YtcefhgomkehokaaGreat
namespace Go.Proofs.YtcefhgomkehokaaGreat
open Go.MapKept
/-! ### a map that the last operation of a drawn region writes -/
structure LStep (G : Pg2) (N : Nat) (Γ : Fr) (ops : Array Oper) (o : Oper) (st : PSt) (K' : PSt → Prop) : Prop where
  go : ∀ ρ I a w, Rel N Γ st ρ I a w → ∀ Q : Exit → Act → World → Prop, Region.wanted o (yielded ops a.tmps) = true ∧ o.wp G.P a w (fun a' w' => ∃ st' ρ' I', K' st' ∧ Rel N Γ st' ρ' I' a' w') Q
section
variable {G : Pg2} {N : Nat} {Γ : Fr} {st : PSt} {K : Exit → PSt → Prop} {ops : Array Oper} {o : Oper} {H : List Nat} {ni : Bool} {fuel m : Nat} {listed ls : Array Bool}
theorem pe_lastS {i : Nat} (hready : Region.ready .any ops listed = [i]) (hlast : lastB ops i = true) (hi : ops[i]? = some o) (hnil : Region.ready .any ops (listed.setIfInBounds i true) = []) (hstep : LStep G N Γ ops o st (fun st' => K .normal st')) : PE G N Γ ops H ni (fuel + 1) listed st K := .mk fun HB w1 ρ I a w hrel hinv => by
  have fin : ∀ (fuel : Nat) (a' : Act) (w'' : World), Qf N Γ K .normal a' w'' → wpAnyE G.P ops (Qf N Γ K) (SHB HB w1) fuel (listed.setIfInBounds i true) a' w''
    | 0, _, _, h => ⟨hnil, h⟩
    | _ + 1, _, _, h => ⟨fun _ => h, fun j hj => by rw [hnil] at hj; cases hj⟩
  refine ⟨fun h0 => (by rw [hready] at h0; cases h0), fun j hj => ?_⟩
  obtain rfl : j = i := by rw [hready] at hj; simpa using hj
  unfold wpOp
  simp only [hi]
  obtain ⟨hw, hs⟩ := hstep.go ρ I a w hrel (Qf N Γ K)
  rw [if_pos hw]
  refine .inl (Oper.wp_mono (fun a' w' => ?_) hs)
  rintro ⟨st', ρ', I', hk, hrel'⟩ w'' hx
  exact ⟨fun h => (by rw [hlast] at h; cases h), fin _ _ _ ⟨by simp, st', ρ', I', hk, hrel'.ext hx (I' := I') (fun _ h => h) (fun _ h => .inl h)⟩⟩
theorem xs_lastS {i : Nat} (hlast : lastB ops i = true) (hi : opAt ops.toList i = some o) (h : LStep G N Γ ops o st (fun st' => K .normal st')) : PS G N Γ ops H ni true [.one i] m ls st K := ⟨fun hs hok => by
  simp only [schOk, Bool.and_eq_true, beq_iff_eq, Bool.not_true, Bool.false_or] at hok
  have : schLen [SK.one i] + m = m + 1 := by show 0 + 1 + m = m + 1; omega
  rw [this]
  exact pe_lastS hok.1 hlast (opAt_ops hi) (by simpa using hok.2) h⟩
end
section
variable {G : Pg2} {N : Nat} {Γ : Fr} {st : PSt} {K' : PSt → Prop} {ops : Array Oper} {o : Oper} {l : Nat} {KT : Type} [DecidableEq KT] {kv : KT → Value} {t : TypeId} {x y z : Operand} {m : List (KT × Int)}
theorem ls_msetB (M : MapTB G.P t kv) (kk : KT) (v : Int) (hg : o.guard = none) (hd : o.dst = none) (ho : o.op = .mapUpdate t x y z) (hx : st.ev x = .mref l) (hy : st.ev y = .val (kv kk)) (hz : st.ev z = .val (bV v)) (hr : rowAt st.mem l = some (mRowB kv m)) (hk : Γ.k0 ≤ l) (hni : noIt st.mem = true) {m' : List Row}
    (hm : setM st.mem l (mRowB kv (mset m kk v)) some = some m') (h : K' ⟨st.tm, m'⟩) : LStep G N Γ ops o st K' := .mk fun ρ I a w hrel Q => by
  have hw : Region.wanted o (yielded ops a.tmps) = true := by simp [Region.wanted, hg]
  refine ⟨hw, ?_⟩
  rw [rowAt_get] at hr
  rw [setM_eq] at hm
  simp only [Option.some.injEq] at hm
  subst hm
  have hxv := ev_rel hrel x
  rw [hx] at hxv
  obtain ⟨_, hxv⟩ := hxv
  have hyv := ev_rel hrel y
  rw [hy] at hyv
  have hyv : a.eval y = kv kk := hyv
  have hzv := ev_rel hrel z
  rw [hz] at hzv
  have hzv : a.eval z = bV v := hzv
  obtain ⟨_, _, hs⟩ := hrel.fr.m.side l _ hr rfl
  obtain ⟨es, clock, q1, q2, q3⟩ := (hs Nat.zero_lt_one).1 rfl
  obtain ⟨es', clock', g1, g2, g3⟩ := run_msetB M q1 (mapV_eqB q3) q2 kk v
  have hv : (execOp a.eval o).run G.P w = .ok .skip { w with heap := w.heap.setIfInBounds (ρ l).b (.map es' clock') } := by
    unfold execOp
    rw [ho]
    simp only [hxv, hyv, hzv, Sem.run_bind, g1, Result.andThen, Sem.run_pure]
  simp only [Oper.wp, hv, Oper.upon_skip, hd, Act.put]
  refine ⟨_, ρ, I, h, hrel.setMap hr rfl hk hni (mRowB kv (mset m kk v)) rfl rfl g2 fun k' ρ' w' => ?_⟩
  show mapV es' = mVB kv (mset m kk v)
  have := congrArg (List.map fun e : Value × Value => Value.tuple #[e.1, e.2]) g3
  rw [List.map_map, List.map_map] at this
  unfold mapV mVB
  congr 1
  apply Array.ext'
  rw [Array.toList_map]
  exact this
end
/-! ### what is listed -/
def mapIBd : MapTB G.P 90 kI := ⟨3, 4, _, Tryz.underlying90, Tryz.underlying3, fun _ => rfl, kI_inj, Tryz.zeroValue4⟩
def lsM (out : List Int) : List (Int × Int) := out.map fun x => (x, 1)
theorem lsM_get (out : List Int) (x : Int) : (mget (lsM out) x).getD 0 = if x ∈ out then 1 else 0 := by
  induction out with
  | nil => rfl
  | cons y out ih =>
    show (if y = x then some 1 else mget (lsM out) x).getD 0 = _
    by_cases h : y = x
    · subst h; rw [if_pos rfl, if_pos (List.mem_cons_self ..)]; rfl
    · rw [if_neg h, ih]
      by_cases h2 : x ∈ out
      · rw [if_pos h2, if_pos (List.mem_cons_of_mem _ h2)]
      · rw [if_neg h2, if_neg (fun h3 => by rcases List.mem_cons.1 h3 with e | e; exact h e.symm; exact h2 e)]
theorem lsM_b (out : List Int) (x : Int) : PV.val (bV ((mget (lsM out) x).getD 0)) = vb (decide (x ∈ out)) := by
  rw [lsM_get]
  by_cases h : x ∈ out
  · rw [if_pos h, decide_eq_true h]; rfl
  · rw [if_neg h, decide_eq_false h]; rfl
theorem lsM_set {out : List Int} {x : Int} (h : ¬ x ∈ out) : mset (lsM out) x 1 = lsM (out ++ [x]) := by
  rw [mset_none (fun e he => ?_)]
  · unfold lsM; rw [List.map_append]; rfl
  · obtain ⟨y, hy, rfl⟩ := List.mem_map.1 he
    exact fun e => h (e ▸ hy)
def cLis (out : List Int) : PV := .vptr 1 1 (fun _ _ => .vmap (.val (mVB kI (lsM out)))) 0 0
def cGr (N : List Int) (L : List (Int × List Int)) : PV := .vptr 1 2 (fun _ => nthP [sV N, .vmap (cS L)]) 0 0
theorem listed_p (out : List Int) : PrdC1 63 (nthP [cLis out]) (fun x => !decide (x ∈ out)) := ⟨trivial, fun x => by
  refine pure_of (G := G.toPg) (fn := Tryz.f63) Tryz.func63 rfl rfl rfl ?_; intro Γ hk
  repeat' (first | refine gg ?_ | exact trivial | with_reducible refine wA ?_ ?_ | refine Y2.mk ?_ ?_ | refine gh ?_ | exact qq | fail)
  refine pop_lookvB mapIBd false x rfl rfl rfl rfl rfl rfl ?_
  rw [show (bif false then PV.tup 2 (nthP [.val (bV ((mget (lsM out) x).getD 0)), vb (mget (lsM out) x).isSome]) else .val (bV ((mget (lsM out) x).getD 0))) = vb (decide (x ∈ out)) from lsM_b out x]
  repeat' (first | refine gg ?_ | exact trivial | with_reducible refine wA ?_ ?_ | refine Y2.mk ?_ ?_ | refine gh ?_ | exact qq | fail)
  exact kretv rfl ⟨trivial, trivial⟩ rfl rfl⟩
def rdyB (L : List (Int × List Int)) (out : List Int) (x : Int) : Bool := !decide (x ∈ out) && (sget L x).all fun y => decide (y ∈ out)
theorem any_not {l : List Int} {p : Int → Bool} : l.any (fun y => !p y) = !l.all p := by
  induction l with
  | nil => rfl
  | cons a l ih => rw [List.any_cons, List.all_cons, ih]; cases p a <;> rfl
theorem sget_len {N : List Int} {L : List (Int × List Int)} {n : Nat} (h : ∀ e, e ∈ L → e.2.length ≤ n) (x : Int) : (sget L x).length ≤ n := by
  unfold sget
  split
  · exact h _ (List.mem_of_find?_eq_some (by assumption))
  · exact Nat.zero_le _
set_option maxHeartbeats 4000000 in
theorem ready_p (N : List Int) (L : List (Int × List Int)) (out : List Int) (hL : ∀ e, e ∈ L → e.2.length ≤ 1000000) : PrdC 61 (nthP [cLis out, cGr N L]) (rdyB L out) := ⟨trivial, trivial, fun x => by
  have hp := containsFunc1_c (sget L x) _ _ _ (listed_p out) (Nat.le_trans (sget_len (N := N) hL x) (by decide))
  rw [any_not] at hp
  refine pure_of (G := G.toPg) (fn := Tryz.f61) Tryz.func61 rfl rfl rfl ?_; intro Γ hk
  repeat' (first | refine gg ?_ | exact trivial | with_reducible refine wA ?_ ?_ | refine Y2.mk ?_ ?_ | refine gh ?_ | exact qq | fail)
  refine pop_lookvB mapIBd false x rfl rfl rfl rfl rfl rfl ?_
  rw [show (bif false then PV.tup 2 (nthP [.val (bV ((mget (lsM out) x).getD 0)), vb (mget (lsM out) x).isSome]) else .val (bV ((mget (lsM out) x).getD 0))) = vb (decide (x ∈ out)) from lsM_b out x]
  by_cases hx : x ∈ out
  · rw [decide_eq_true hx]
    repeat' (first | refine gg ?_ | exact trivial | with_reducible refine wA ?_ ?_ | refine Y2.mk ?_ ?_ | (refine pop_gfalse rfl rfl rfl rfl ?_) | exact (fun hh => by cases hh) | refine gh ?_ | exact qq | fail)
    refine xdone ?_
    exact kretv rfl ⟨trivial, trivial⟩ rfl (by unfold rdyB; rw [decide_eq_true hx]; rfl)
  · rw [decide_eq_false hx]
    repeat' (first | refine gg ?_ | exact trivial | with_reducible refine wA ?_ ?_ | refine Y2.mk ?_ ?_ | refine gh ?_ | exact qq | fail)
    refine pop_opt 11 rfl rfl ?_
    refine pop_opt 12 rfl rfl ?_
    refine pop_unguard rfl rfl ?_
    refine pop_lookvS mapIS x rfl rfl rfl rfl rfl rfl ?_
    repeat' (first | refine gg ?_ | exact trivial | with_reducible refine wA ?_ ?_ | refine Y2.mk ?_ ?_ | (refine pop_unguard rfl rfl ?_) | refine gh ?_ | exact qq | fail)
    refine pop_opt 14 rfl rfl ?_
    refine pop_call [] rfl rfl rfl rfl rfl hp ⟨argVsl, argCl (listed_p out).cl, trivial⟩ ?_
    rintro _ rfl
    refine ⟨trivial, ?_⟩
    repeat' (first | refine gg ?_ | exact trivial | with_reducible refine wA ?_ ?_ | refine Y2.mk ?_ ?_ | refine gh ?_ | exact qq | fail)
    refine xdone ?_
    exact kretv rfl ⟨trivial, trivial⟩ rfl (eqB (by unfold rdyB; rw [decide_eq_false hx]; simp))⟩
def ordF (N : List Int) (L : List (Int × List Int)) : Nat → List Int → List Int × Int
  | 0, out => (out, 0)
  | f + 1, out => match N.find? (rdyB L out) with
    | none => ([], 11)
    | some x => ordF N L f (out ++ [x])
theorem ordF_no {N : List Int} {L : List (Int × List Int)} {f : Nat} {out : List Int} (h : N.find? (rdyB L out) = none) : ordF N L (f + 1) out = ([], 11) := by
  rw [ordF, h]
theorem ordF_yes {N : List Int} {L : List (Int × List Int)} {f : Nat} {out : List Int} {x : Int} (h : N.find? (rdyB L out) = some x) : ordF N L (f + 1) out = ordF N L f (out ++ [x]) := by
  rw [ordF, h]
def cM1 (p : PV) : Row := ⟨.own, true, 1, 1, fun _ _ => p⟩
theorem cM1_eq {τ : Nat → Option Nat} {p : PV} {f : Nat → Nat → PV} (h : PEq ((f 0 0).ren τ) p) : RowEq (Row.ren τ ⟨.own, true, 1, 1, f⟩) (cM1 p) := ⟨rfl, rfl, Nat.le_refl _, fun i hi j hj => by
  have hi : i < 1 := hi
  have hj : j < 1 := hj
  obtain rfl : i = 0 := by omega
  obtain rfl : j = 0 := by omega
  exact h⟩
set_option maxHeartbeats 8000000 in
theorem order_c (N : List Int) (L : List (Int × List Int)) (hN : N.length ≤ 1000000) (hL : ∀ e, e ∈ L → e.2.length ≤ 1000000) : PureC G.P 37 [.agg 2 (nthP [sV N, .vmap (cS L)])] (fun r => r = .tup 2 (nthP [sV (ordF N L N.length []).1, vi (ordF N L N.length []).2])) := by
  refine pure_of (G := G.toPg) (fn := Tryz.f37) Tryz.func37 rfl rfl rfl ?_; intro Γ hk
  repeat' (first | refine gg ?_ | exact trivial | with_reducible refine wA ?_ ?_ | refine Y2.mk ?_ ?_ | refine gh ?_ | exact qq | fail)
  refine pop_mkmapB kI rfl rfl rfl rfl rfl ?_
  repeat' (first | refine gg ?_ | exact trivial | with_reducible refine wA ?_ ?_ | refine Y2.mk ?_ ?_ | refine gh ?_ | exact qq | fail)
  refine pcan ((can_virt (vRow c1 1 0 (lF 0 [])) rfl).trans (can_rowsv [0, 1, 2, 3] (tm := [(1, .ptr 0 0 0), (4, slP 0 3), (5, .ptr 2 0 0)]) (rows := [cG (sV N) (.vmap (cS L)), mRowB kI (lsM []), cM1 (.mref 1), vRow c1 1 0 (lF 0 [])]) (k0_sel hk rfl) rfl (.cons rfl (cG_eq (PEq.refl _) (PEq.refl _)) (.cons rfl m_eqB (.cons rfl (cM1_eq (PEq.refl _)) (.cons rfl (RowEq.cl (v_cl c1_cl _ _ _)) .nil)))) tmq)) ?_
  refine ploop (fun q st => ∃ (k : Nat) (out : List Int), out.length = k ∧ k ≤ N.length ∧ ordF N L N.length [] = ordF N L (N.length - k) out ∧ q = N.length - k ∧ st = ⟨[(1, .ptr 0 0 0), (4, slP k 3), (5, .ptr 2 0 0)], [cG (sV N) (.vmap (cS L)), mRowB kI (lsM out), cM1 (.mref 1), vRow c1 1 k (lF 0 out)]⟩) N.length ⟨0, [], rfl, Nat.zero_le _, rfl, rfl, rfl⟩ ?_
  rintro _ _ ⟨k, out, hk2, hkN, hO, rfl, rfl⟩
  rcases k with _ | k
  · repeat' (first | refine gg ?_ | exact trivial | with_reducible refine wA ?_ ?_ | refine Y2.mk ?_ ?_ | refine gh ?_ | exact qq | fail)
    refine pcond rfl ?_ ?_ <;> intro hc
    · have hc : 0 < N.length := by have := of_decide_eq_true hc; omega
      repeat' (first | refine gg ?_ | exact trivial | with_reducible refine wA ?_ ?_ | refine Y2.mk ?_ ?_ | refine gh ?_ | exact qq | fail)
      refine pop_callM [2, 0] [1] rfl rfl rfl rfl rfl (indexFunc_c N.length (lF 0 N) _ _ _ (ready_p N L out hL) (by omega)) (by exact ⟨argM argVsl, argM_clo (fun i hi => by
        have hi : i < 2 := hi
        obtain rfl | rfl : i = 0 ∨ i = 1 := by omega
        · exact argM_ptr (r := cM1 (.mref 1)) rfl trivial (List.Mem.head _) (Nat.le_refl _) rfl (fun a ha b hb => argM_ref (one := false) (n := 0) (f := fun _ _ => .val (mVB kI (lsM out))) rfl (List.Mem.head _) trivial)
        · exact argM_ptr (r := cG (sV N) (.vmap (cS L))) rfl trivial (List.Mem.tail _ (List.Mem.head _)) (Nat.le_refl _) rfl (fun a ha b hb => by
            obtain rfl | rfl : b = 0 ∨ b = 1 := by omega
            · exact argM argVsl
            · exact argM (argCl trivial))), trivial⟩) ?_
      rintro _ ⟨i, hi, hv, ⟨hin, hp, rfl⟩ | ⟨rfl, rfl⟩⟩
      · refine ⟨trivial, ?_⟩
        have hfd : N.find? (rdyB L out) = some (lF 0 N i) := find_lF hin hv hp
        have hno : ¬ lF 0 N i ∈ out := fun hh => by
          unfold rdyB at hp
          rw [decide_eq_true hh] at hp; cases hp
        have hO2 : ordF N L N.length [] = ordF N L (N.length - (0 + 1)) (out ++ [lF 0 N i]) := by
          rw [hO, show N.length - (0) = N.length - (0 + 1) + 1 by omega, ordF_yes hfd]
        repeat' (first | refine gg ?_ | exact trivial | with_reducible refine wA ?_ ?_ | refine Y2.mk ?_ ?_ | refine gh ?_ | exact qq | fail)
        refine xs_start (id := 7) true [.take 0, .take 1, .take 2, .take 3, .take 4, .take 5, .one 6] 0 rfl rfl (by kernel_rfl) ?_
        repeat' (first | refine gg ?_ | exact trivial | with_reducible refine wA ?_ ?_ | refine Y2.mk ?_ ?_ | refine gh ?_ | exact qq | fail)
        refine xs_lastS rfl rfl (ls_msetB mapIBd (lF 0 N i) 1 rfl rfl rfl rfl rfl rfl rfl (by rw [hk]; exact Nat.zero_le _) rfl rfl ?_)
        rw [lsM_set hno]
        repeat' (first | refine gg ?_ | exact trivial | with_reducible refine wA ?_ ?_ | refine Y2.mk ?_ ?_ | exact ⟨Nat.le_refl _, (by rw [hk]; exact Nat.le_of_ble_eq_true rfl), Nat.le_of_eq (Nat.zero_add _), (show (_ : Nat) * 8 ≤ 140737488355328 from by omega), (show (_ : Nat) ≤ 9223372036854775807 from by omega)⟩ | refine gh ?_ | exact qq | fail)
        exact kloop_next (st' := ⟨[(1, .ptr 0 0 0), (4, slP (0 + 1) 3), (5, .ptr 2 0 0)], [cG (sV N) (.vmap (cS L)), mRowB kI (lsM (out ++ [lF 0 N i])), cM1 (.mref 1), vRow c1 1 (0 + 1) (lF 0 (out ++ [lF 0 N i]))]⟩) (N.length - (0 + 1)) (can_rowsv [0, 1, 2, 5] (k0_sel hk rfl) rfl (.cons rfl (cG_eq (PEq.refl _) (PEq.refl _)) (.cons rfl m_eqB (.cons rfl (cM1_eq (PEq.refl _)) (.cons rfl (app_l0 c1_cl hk2 rfl) .nil)))) tmq) (by omega) ⟨0 + 1, out ++ [lF 0 N i], by rw [List.length_append, hk2]; rfl, by omega, hO2, rfl, rfl⟩
      · refine ⟨trivial, ?_⟩
        have hfd : N.find? (rdyB L out) = none := find_lno hv
        repeat' (first | refine gg ?_ | exact trivial | with_reducible refine wA ?_ ?_ | refine Y2.mk ?_ ?_ | refine gh ?_ | exact qq | fail)
        refine xdone ?_
        refine kret [] rfl ⟨trivial, trivial, trivial⟩ (qs := [.vsl 0 1 (tI (lF 0 [])), vi 11]) ⟨argNil, argVal, trivial⟩ ?_
        rw [hO, show N.length - (0) = N.length - (0 + 1) + 1 by omega, ordF_no hfd]; rfl
    · have hkN : 0 = N.length := by have := of_decide_eq_false hc; omega
      repeat' (first | refine gg ?_ | exact trivial | with_reducible refine wA ?_ ?_ | refine Y2.mk ?_ ?_ | refine gh ?_ | exact qq | fail)
      refine xdone ?_
      refine kret [3] rfl ⟨trivial, trivial, trivial⟩ (qs := [.vsl (0) 1 (tI (lF 0 out)), vi 0]) ⟨argTI (arg_v (n := 0) (l := 3) c1_cl rfl (List.Mem.head _)), argVal, trivial⟩ ?_
      rw [hO, show N.length - (0) = 0 by omega, ordF, ← hk2]
      rfl
  · repeat' (first | refine gg ?_ | exact trivial | with_reducible refine wA ?_ ?_ | refine Y2.mk ?_ ?_ | refine gh ?_ | exact qq | fail)
    refine pcond rfl ?_ ?_ <;> intro hc
    · have hc : (k + 1) < N.length := by have := of_decide_eq_true hc; omega
      repeat' (first | refine gg ?_ | exact trivial | with_reducible refine wA ?_ ?_ | refine Y2.mk ?_ ?_ | refine gh ?_ | exact qq | fail)
      refine pop_callM [2, 0] [1] rfl rfl rfl rfl rfl (indexFunc_c N.length (lF 0 N) _ _ _ (ready_p N L out hL) (by omega)) (by exact ⟨argM argVsl, argM_clo (fun i hi => by
        have hi : i < 2 := hi
        obtain rfl | rfl : i = 0 ∨ i = 1 := by omega
        · exact argM_ptr (r := cM1 (.mref 1)) rfl trivial (List.Mem.head _) (Nat.le_refl _) rfl (fun a ha b hb => argM_ref (one := false) (n := 0) (f := fun _ _ => .val (mVB kI (lsM out))) rfl (List.Mem.head _) trivial)
        · exact argM_ptr (r := cG (sV N) (.vmap (cS L))) rfl trivial (List.Mem.tail _ (List.Mem.head _)) (Nat.le_refl _) rfl (fun a ha b hb => by
            obtain rfl | rfl : b = 0 ∨ b = 1 := by omega
            · exact argM argVsl
            · exact argM (argCl trivial))), trivial⟩) ?_
      rintro _ ⟨i, hi, hv, ⟨hin, hp, rfl⟩ | ⟨rfl, rfl⟩⟩
      · refine ⟨trivial, ?_⟩
        have hfd : N.find? (rdyB L out) = some (lF 0 N i) := find_lF hin hv hp
        have hno : ¬ lF 0 N i ∈ out := fun hh => by
          unfold rdyB at hp
          rw [decide_eq_true hh] at hp; cases hp
        have hO2 : ordF N L N.length [] = ordF N L (N.length - ((k + 1) + 1)) (out ++ [lF 0 N i]) := by
          rw [hO, show N.length - ((k + 1)) = N.length - ((k + 1) + 1) + 1 by omega, ordF_yes hfd]
        repeat' (first | refine gg ?_ | exact trivial | with_reducible refine wA ?_ ?_ | refine Y2.mk ?_ ?_ | refine gh ?_ | exact qq | fail)
        refine xs_start (id := 7) true [.take 0, .take 1, .take 2, .take 3, .take 4, .take 5, .one 6] 0 rfl rfl (by kernel_rfl) ?_
        repeat' (first | refine gg ?_ | exact trivial | with_reducible refine wA ?_ ?_ | refine Y2.mk ?_ ?_ | refine gh ?_ | exact qq | fail)
        refine xs_lastS rfl rfl (ls_msetB mapIBd (lF 0 N i) 1 rfl rfl rfl rfl rfl rfl rfl (by rw [hk]; exact Nat.zero_le _) rfl rfl ?_)
        rw [lsM_set hno]
        repeat' (first | refine gg ?_ | exact trivial | with_reducible refine wA ?_ ?_ | refine Y2.mk ?_ ?_ | exact ⟨Nat.le_refl _, (by rw [hk]; exact Nat.le_of_ble_eq_true rfl), Nat.le_of_eq (Nat.zero_add _), (show (_ : Nat) * 8 ≤ 140737488355328 from by omega), (show (_ : Nat) ≤ 9223372036854775807 from by omega)⟩ | refine gh ?_ | exact qq | fail)
        exact kloop_next (st' := ⟨[(1, .ptr 0 0 0), (4, slP (k + 1 + 1) 3), (5, .ptr 2 0 0)], [cG (sV N) (.vmap (cS L)), mRowB kI (lsM (out ++ [lF 0 N i])), cM1 (.mref 1), vRow c1 1 (k + 1 + 1) (lF 0 (out ++ [lF 0 N i]))]⟩) (N.length - ((k + 1) + 1)) (can_rowsv [0, 1, 2, 5] (k0_sel hk rfl) rfl (.cons rfl (cG_eq (PEq.refl _) (PEq.refl _)) (.cons rfl m_eqB (.cons rfl (cM1_eq (PEq.refl _)) (.cons rfl (app_l c1_cl hk2 rfl rfl) .nil)))) tmq) (by omega) ⟨k + 1 + 1, out ++ [lF 0 N i], by rw [List.length_append, hk2]; rfl, by omega, hO2, rfl, rfl⟩
      · refine ⟨trivial, ?_⟩
        have hfd : N.find? (rdyB L out) = none := find_lno hv
        repeat' (first | refine gg ?_ | exact trivial | with_reducible refine wA ?_ ?_ | refine Y2.mk ?_ ?_ | refine gh ?_ | exact qq | fail)
        refine xdone ?_
        refine kret [] rfl ⟨trivial, trivial, trivial⟩ (qs := [.vsl 0 1 (tI (lF 0 [])), vi 11]) ⟨argNil, argVal, trivial⟩ ?_
        rw [hO, show N.length - ((k + 1)) = N.length - ((k + 1) + 1) + 1 by omega, ordF_no hfd]; rfl
    · have hkN : (k + 1) = N.length := by have := of_decide_eq_false hc; omega
      repeat' (first | refine gg ?_ | exact trivial | with_reducible refine wA ?_ ?_ | refine Y2.mk ?_ ?_ | refine gh ?_ | exact qq | fail)
      refine xdone ?_
      refine kret [3] rfl ⟨trivial, trivial, trivial⟩ (qs := [.vsl ((k + 1)) 1 (tI (lF 0 out)), vi 0]) ⟨argTI (arg_v (n := (k + 1)) (l := 3) c1_cl rfl (List.Mem.head _)), argVal, trivial⟩ ?_
      rw [hO, show N.length - ((k + 1)) = 0 by omega, ordF, ← hk2]
      rfl
end Go.Proofs.YtcefhgomkehokaaGreat
namespace Go.Proofs.YtcefhgomkehokaaGreat
theorem rows_pure {P : Program} {f : FuncId} {args : List PV} {post : PV → List Row → Prop} {post' : PV → Prop} (h : RowsC P f [] args post) (hp : ∀ r rows, post r rows → ∃ q L, post' q ∧ ArgOk rows L r q) : PureC P f args post' := ⟨h.1, fun ρ A w vs hA hG ha => by
  obtain ⟨hlen, hvs⟩ := arel_nth args vs ha
  have hm : MRel ρ A w [] := ⟨fun l r hl => by simp at hl, fun l l' r r' _ hl => by simp at hl, fun l r hl => by simp at hl, fun l r hl => by simp at hl, hA, fun l r hl => by simp at hl, fun l l' r r' _ hl => by simp at hl⟩
  refine (h.2 ρ A w vs hm hG hlen (fun i hi => hvs i hi)).mono ?_
  rintro e w' ⟨v, r, rows', ρ', I', rfl, hpost, hex, hfr, hv⟩
  obtain ⟨q, L, hq, harg⟩ := hp r rows' hpost
  have hsub : ∀ b, ASet ρ' I' rows' L b → (A b ∨ (w.heap.size ≤ b ∧ b < w'.heap.size)) := by
    have hI : ∀ b, I' b → (A b ∨ (w.heap.size ≤ b ∧ b < w'.heap.size)) := fun b hb => by
      by_cases hlt : b < w.heap.size
      · exact .inl (hfr.old b hb hlt)
      · exact .inr ⟨by omega, hfr.m.lt b hb⟩
    rintro b (hb | ⟨l, r, _, hl, hs, rfl⟩)
    · exact hI b hb
    · cases hrs : r.s
      · rw [hrs] at hs; exact hs.elim
      · exact hI _ (hfr.m.imm l r hl hrs)
      · refine .inr ⟨hfr.fresh l r hl (by rw [hrs]; trivial) (Nat.zero_le _), ?_⟩
        obtain ⟨h1, cs, T, h2, h3⟩ := hfr.m.row l r hl hs
        by_cases hb : (ρ' l).b < w'.heap.size
        · exact hb
        · rw [Array.getElem?_eq_none (by omega)] at h2; cases h2
      · rw [hrs] at hs; exact hs.elim
      · rw [hrs] at hs; exact hs.elim
  refine ⟨v, q, rfl, hq, ⟨hfr.os, hfr.tape, hfr.output, hfr.size, fun b hb => hfr.block b hb (fun ⟨l, r, hl, _⟩ => by simp at hl)⟩, ?_⟩
  exact (harg ρ' I' w' v hfr.m hv).up (Nat.le_refl _) (fun l hl => by omega) hsub (Tr.refl _ _)⟩
theorem argTupL {mem : List Row} {L : List Nat} {n : Nat} {f g : Nat → PV} (h : ∀ i, i < n → ArgOk mem L (f i) (g i)) : ArgOk mem L (.tup n f) (.tup n g) := fun ρ I w v hm ⟨vs, h1, h2, h3⟩ => ⟨vs, h1, h2, fun i hi => h i hi ρ I w _ hm (h3 i hi)⟩
abbrev vGr (N : List Int) (L : List (Int × List Int)) : PV := .agg 2 (nthP [sV N, .vmap (cS L)])
abbrev nodS (l : List Df) (day : Int) : List Int := nodL l (actL l day)
abbrev mapS (l : List Df) (day : Int) : List (Int × List Int) := mapL l (actL l day) (nodS l day)
theorem newGraph_c0 (nm : ByteArray) (l : List Df) (day : Int) (h : AgO nm l) (hl : l.length ≤ 1000000) (he : gErr nm l day = 0) : PureC G.P 36 [vA nm l, vi day] (fun q => q = .tup 2 (nthP [vGr (nodS l day) (mapS l day), vi 0])) := rows_pure (newGraph_r nm l day h hl) fun r rows hr => by
  rcases hr with ⟨h1, _⟩ | ⟨_, k, hk2, rfl, rfl⟩
  · exact absurd he h1
  · refine ⟨_, [0], rfl, argTupL fun i hi => ?_⟩
    obtain rfl | rfl : i = 0 ∨ i = 1 := by omega
    · refine argAggL fun j hj => ?_
      obtain rfl | rfl : j = 0 ∨ j = 1 := by omega
      · show ArgOk _ _ (slP k 0) (sV _)
        unfold sV
        rw [hk2]
        exact argTI (arg_v c1_cl rfl (List.Mem.head _))
      · exact argCl trivial
    · exact argVal
theorem newGraph_c1 (nm : ByteArray) (l : List Df) (day : Int) (h : AgO nm l) (hl : l.length ≤ 1000000) (he : gErr nm l day ≠ 0) : PureC G.P 36 [vA nm l, vi day] (fun q => q = .tup 2 (nthP [.agg 2 (nthP [.val (.slice none 0 0), .val (.map none)]), vi (gErr nm l day)])) := rows_pure (newGraph_r nm l day h hl) fun r rows hr => by
  rcases hr with ⟨_, rfl, rfl⟩ | ⟨h1, _⟩
  · exact ⟨_, [], rfl, argCl (clT ⟨clA ⟨trivial, trivial, trivial⟩, trivial, trivial⟩)⟩
  · exact absurd h1 he
theorem nodS_len (l : List Df) (day : Int) : (nodS l day).length ≤ l.length := Nat.le_trans (List.length_filter_le _ _) (actL_len l day)
theorem mapS_len (l : List Df) (day : Int) : ∀ e, e ∈ mapS l day → e.2.length ≤ l.length := fun e he => by
  obtain ⟨x, hx, rfl⟩ := List.mem_map.1 he
  show (needS l (actL l day) x.toNat).1.length ≤ _
  unfold needS
  split
  · exact Nat.le_trans (List.length_filter_le _ _) (actL_len l day)
  · exact Nat.zero_le _
def OrdS (nm : ByteArray) (l : List Df) (day : Int) : List Int × Int := if gErr nm l day ≠ 0 then ([], gErr nm l day) else ordF (nodS l day) (mapS l day) (nodS l day).length []
set_option maxHeartbeats 4000000 in
theorem Order_c (nm : ByteArray) (l : List Df) (day : Int) (h : AgO nm l) (hl : l.length ≤ 1000000) : PureC G.P 14 [vA nm l, vi day] (fun r => r = .tup 2 (nthP [sV (OrdS nm l day).1, vi (OrdS nm l day).2])) := by
  by_cases he : gErr nm l day = 0
  · have cg := newGraph_c0 nm l day h hl he
    have co := order_c (nodS l day) (mapS l day) (Nat.le_trans (nodS_len l day) hl) (fun e he => Nat.le_trans (mapS_len l day e he) hl)
    refine pure_of (G := G.toPg) (fn := Tryz.f14) Tryz.func14 rfl rfl rfl ?_; intro Γ hk
    repeat' (first | refine gg ?_ | exact trivial | with_reducible refine wA ?_ ?_ | refine Y2.mk ?_ ?_ | (refine pop_callc [] rfl rfl rfl rfl rfl rfl (fun _ h => by cases h) (cg) (args_cl _ rfl) ?_; rintro _ rfl) | (refine pop_callc [] rfl rfl rfl rfl rfl rfl (fun _ h => by cases h) (co) (args_cl _ rfl) ?_; rintro _ rfl) | refine gh ?_ | exact qq | fail)
    refine kretv rfl ⟨trivial, trivial, trivial⟩ rfl ?_
    unfold OrdS; rw [if_neg (fun hh => hh he)]; rfl
  · have cg := newGraph_c1 nm l day h hl he
    refine pure_of (G := G.toPg) (fn := Tryz.f14) Tryz.func14 rfl rfl rfl ?_; intro Γ hk
    repeat' (first | refine gg ?_ | exact trivial | with_reducible refine wA ?_ ?_ | refine Y2.mk ?_ ?_ | (refine pop_callc [] rfl rfl rfl rfl rfl rfl (fun _ h => by cases h) (cg) (args_cl _ rfl) ?_; rintro _ rfl) | refine gh ?_ | exact qq | fail)
    refine pcond (b := true) (eqB (by simpa using he)) ?_ ?_ <;> intro h1
    · repeat' (first | refine gg ?_ | exact trivial | with_reducible refine wA ?_ ?_ | refine Y2.mk ?_ ?_ | refine gh ?_ | exact qq | fail)
      refine kret [] rfl ⟨trivial, trivial, trivial⟩ (qs := [.vsl 0 1 (tI (lF 0 [])), vi (gErr nm l day)]) ⟨argNil, argVal, trivial⟩ ?_
      unfold OrdS; rw [if_pos he]; rfl
    · cases h1
end Go.Proofs.YtcefhgomkehokaaGreat
namespace Go.Proofs.YtcefhgomkehokaaGreat
def mnE (l : List Df) (act : List Int) (e : Ex) : Int := (meanI l act e).getD (-1)
structure MemOk (f : Ex → Int) (P : List Int) (R : List Ex) (M : List Int) : Prop where
  mem : ∀ x, x ∈ M ↔ x ∈ P ∨ x ∈ R.map f
  len : M.length ≤ P.length + R.length
theorem MemOk.nil {f : Ex → Int} {P : List Int} : MemOk f P [] P := ⟨fun x => by simp, by simp⟩
theorem MemOk.trans {f : Ex → Int} {P M N : List Int} {R S : List Ex} (h : MemOk f P R M) (h2 : MemOk f M S N) : MemOk f P (R ++ S) N := ⟨fun x => by
  rw [h2.mem, h.mem, List.map_append, List.mem_append, or_assoc], by have := h.len; have := h2.len; rw [List.length_append]; omega⟩
theorem MemOk.found {f : Ex → Int} {P M : List Int} {R : List Ex} {e : Ex} (h : MemOk f P R M) (he : f e ∈ M) : MemOk f P ([e] ++ R) M := ⟨fun x => by
  rw [h.mem, List.map_append, List.mem_append]
  constructor
  · rintro (h1 | h1)
    · exact .inl h1
    · exact .inr (.inr h1)
  · rintro (h1 | h1 | h1)
    · exact .inl h1
    · have : x = f e := by simpa using h1
      subst this
      exact (h.mem _).1 he
    · exact .inr h1, by have := h.len; rw [List.length_append]; omega⟩
theorem MemOk.add {f : Ex → Int} {P M : List Int} {R : List Ex} {e : Ex} (h : MemOk f P R M) : MemOk f P ([e] ++ R) (M ++ [f e]) := ⟨fun x => by
  rw [List.mem_append, h.mem, List.map_append, List.mem_append, List.mem_singleton]
  constructor
  · rintro ((h1 | h1) | h1)
    · exact .inl h1
    · exact .inr (.inr h1)
    · exact .inr (.inl (by simp [h1]))
  · rintro (h1 | h1 | h1)
    · exact .inl (.inl h1)
    · exact .inr (by simpa using h1)
    · exact .inl (.inr h1), by have := h.len; rw [List.length_append, List.length_append, List.length_singleton, List.length_singleton]; omega⟩
theorem MemOk.skip {f : Ex → Int} {P M : List Int} {R : List Ex} (h : MemOk f P R M) : MemOk f P ([] ++ R) M := h
theorem oI_cl (k : Nat) (g : Nat → Int) : rowCl (oRow c1 1 k g) := fun i _ j _ => tF_cl c1_cl g i j
theorem rowI_nil {τ : Nat → Option Nat} {f : Nat → Nat → PV} {g : Nat → Int} : RowEq (Row.ren τ ⟨sOf 0, false, 0, 1, f⟩) (vRow c1 1 0 g) := ⟨rfl, rfl, Nat.le_refl 0, fun i hi => absurd hi (Nat.not_lt_zero i)⟩
def OwnI (f : Ex → Int) (P : List Int) (R : List Ex) (r : PV) (rows : List Row) : Prop := ∃ (m : Nat) (M : List Int), M.length = m + 1 ∧ MemOk f P R M ∧ ((r = .lsl 0 0 (m + 1) ∧ rows = [oRow c1 1 (m + 1) (lF 0 M)]) ∨ ∃ (k' : Nat) (g' : Nat → Int), r = .lsl 1 0 (m + 1) ∧ rows = [oRow c1 1 k' g', oRow c1 1 (m + 1) (lF 0 M)])
structure WkC (nm : ByteArray) (l : List Df) (act : List Int) (e : Ex) : Prop where
  nil : RowsC G.P 74 [] [vA nm l, sV act, vX e, nilX] (fun r rows => ∃ (k : Nat) (M : List Int), M.length = k ∧ MemOk (mnE l act) [] (refsE e) M ∧ r = slP k 0 ∧ rows = [vRow c1 1 k (lF 0 M)])
  own : ∀ (P : List Int) (k : Nat), P.length = k + 1 → P.length + e.w ≤ 1000000 → RowsC G.P 74 [oRow c1 1 (k + 1) (lF 0 P)] [vA nm l, sV act, vX e, .lsl 0 0 (k + 1)] (OwnI (mnE l act) P (refsE e))
theorem app_I {τ : Nat → Option Nat} {P : List Int} {e : Int} {k M sz : Nat} {f g : Nat → Nat → PV} (hP : P.length = k) (hM : M = k + 1) (hs : sz = 1) (hf : f = tF c1 (lF 0 P)) (hg : ∀ b, g 0 b = nthP (c1 e) b) : RowEq (Row.ren τ ⟨.own, false, M, sz, appF k f g⟩) (oRow c1 1 (k + 1) (lF 0 (P ++ [e]))) := by
  subst hM hs hf hP
  refine ⟨rfl, rfl, Nat.le_refl _, fun a ha b hb => ?_⟩
  have ha : a < P.length + 1 := ha
  show PEq ((appF P.length (tF c1 (lF 0 P)) g a b).ren τ) (nthP (c1 (lF 0 (P ++ [e]) a)) b)
  by_cases h : a < P.length
  · rw [appF_lt _ _ h, lF_lt h]; exact PEq.cl _ (tF_cl c1_cl _ a b)
  · obtain rfl : a = P.length := by omega
    rw [appF_ge _ _ (Nat.le_refl _), Nat.sub_self, lF_at, hg]; exact PEq.cl _ (clL_nth _ b (c1_cl e))
theorem mnE_op {l : List Df} {act : List Int} {op vn vd um uh ud : Int} {nm0 : ByteArray} {cnt mode : Int} {nk : Nat} {kf : Nat → Ex} (h : op = 3 ∨ op = 4) : mnE l act (.mk op vn vd um uh ud nm0 cnt mode nk kf) = mnI l act nm0 (op == 4) := by
  unfold mnE mnI
  rw [mean_congr (e' := nmX (op == 4) nm0)]
  · rcases h with rfl | rfl <;> rfl
  · rfl
theorem argsW {τ : Nat → Option Nat} {nm : ByteArray} {l : List Df} {act : List Int} {kf : Nat → Ex} {i : Nat} {p q : PV} (h : PEq (p.ren τ) q) : PEqL [(vA nm l).ren τ, (sV act).ren τ, (vX (kf i)).ren τ, p.ren τ] [vA nm l, sV act, vX (kf i), q] := ⟨PEq.cl _ (clA ⟨trivial, trivial, trivial⟩), PEq.refl _, PEq.cl _ (fun i _ => clL_nth _ i (cX_cl _)), h, trivial⟩
set_option maxHeartbeats 16000000 in
theorem walk_own (nm : ByteArray) (l : List Df) (act : List Int) (hl : l.length ≤ 1000000) (ha : act.length ≤ 1000000) (hin : ∀ x, x ∈ act → 0 ≤ x ∧ x < l.length) (op vn vd um uh ud : Int) (nm0 : ByteArray) (cnt mode : Int) (nk : Nat) (kf : Nat → Ex) (hnk : nk ≤ 1000000) (ih : ∀ i, i < nk → WkC nm l act (kf i)) (P : List Int) (k : Nat) (hP : P.length = k + 1) (hw : P.length + (Ex.mk op vn vd um uh ud nm0 cnt mode nk kf).w ≤ 1000000) :
    RowsC G.P 74 [oRow c1 1 (k + 1) (lF 0 P)] [vA nm l, sV act, vX (.mk op vn vd um uh ud nm0 cnt mode nk kf), .lsl 0 0 (k + 1)] (OwnI (mnE l act) P (refsE (.mk op vn vd um uh ud nm0 cnt mode nk kf))) := by
  have hR0 : ¬ (op = 3 ∨ op = 4) → refsE (.mk op vn vd um uh ud nm0 cnt mode nk kf) = [] ++ flatK nk fun i => refsE (kf i) := fun h => by show (if op = 3 ∨ op = 4 then _ else _) ++ _ = _; rw [if_neg h]
  have hR1 : (op = 3 ∨ op = 4) → refsE (.mk op vn vd um uh ud nm0 cnt mode nk kf) = [(.mk op vn vd um uh ud nm0 cnt mode nk kf)] ++ flatK nk fun i => refsE (kf i) := fun h => by show (if op = 3 ∨ op = 4 then _ else _) ++ _ = _; rw [if_pos h]
  have hJ : ∀ (M : List Int) (i : Nat), i < nk → MemOk (mnE l act) P (flatK i fun i => refsE (kf i)) M → M.length + (kf i).w ≤ 1000000 := fun M i hi hM => by
    have := bound_X (op := op) (vn := vn) (vd := vd) (um := um) (uh := uh) (ud := ud) (nm := nm0) (cnt := cnt) (mode := mode) (kf := kf) (E0 := []) (Nat.zero_le _) hi
    have := hM.len
    rw [List.nil_append] at *
    omega
  have hB : ∀ (M : List Int), MemOk (mnE l act) P (flatK nk fun i => refsE (kf i)) M → M.length ≤ 1000000 := fun M hM => by
    have h1 := hM.len
    have h2 := refs_len (.mk op vn vd um uh ud nm0 cnt mode nk kf)
    have h3 : (flatK nk fun i => refsE (kf i)).length ≤ (refsE (.mk op vn vd um uh ud nm0 cnt mode nk kf)).length := by
      rw [refsE, List.length_append]; omega
    omega
  refine rows_of (G := G.toPg) (fn := Tryz.f74) Tryz.func74 rfl rfl rfl ?_; intro Γ hk
  replace hk : Γ.k0 = 1 := hk
  repeat' (first | refine gg ?_ | exact trivial | with_reducible refine wA ?_ ?_ | refine Y2.mk ?_ ?_ | refine gh ?_ | exact qq | fail)
  refine pcan (st' := ⟨[(1, sV act), (3, .lsl 0 0 (k + 1)), (4, .ptr 1 0 0), (6, .ptr 2 0 0), (9, vi ((0 : Nat) : Int))], [oRow c1 1 (k + 1) (lF 0 P), rA1 nm l, rXE (.mk op vn vd um uh ud nm0 cnt mode nk kf)]⟩) (can_rowsv [0, 1, 2] (k0_sel hk rfl) rfl (.cons rfl (RowEq.cl (oI_cl _ _)) (.cons rfl (RowEq.cl (rA1_cl _ _)) (.cons rfl (RowEq.cl (rXE_cl _)) .nil))) tmq) ?_
  refine ploop (fun q st => ∃ (i m : Nat) (M : List Int), i ≤ nk ∧ M.length = m + 1 ∧ MemOk (mnE l act) P (flatK i fun i => refsE (kf i)) M ∧ q = nk - i ∧ (st = ⟨[(1, sV act), (3, .lsl 0 0 (m + 1)), (4, .ptr 1 0 0), (6, .ptr 2 0 0), (9, vi i)], [oRow c1 1 (m + 1) (lF 0 M), rA1 nm l, rXE (.mk op vn vd um uh ud nm0 cnt mode nk kf)]⟩ ∨ ∃ (k2 : Nat) (g2 : Nat → Int), st = ⟨[(1, sV act), (3, .lsl 1 0 (m + 1)), (4, .ptr 2 0 0), (6, .ptr 3 0 0), (9, vi i)], [oRow c1 1 k2 g2, oRow c1 1 (m + 1) (lF 0 M), rA1 nm l, rXE (.mk op vn vd um uh ud nm0 cnt mode nk kf)]⟩)) nk ⟨0, k, P, Nat.zero_le _, hP, .nil, by omega, .inl rfl⟩ ?_
  rintro _ _ ⟨i, m, M, hi, hMl, hM, rfl, hst⟩
  have hw1 : IntKind.i64.wrap ((i : Int) + 1) = ((i + 1 : Nat) : Int) := w64 (by omega) (by omega)
  rcases hst with rfl | ⟨k2, g2, rfl⟩
  · repeat' (first | refine gg ?_ | exact trivial | with_reducible refine wA ?_ ?_ | refine Y2.mk ?_ ?_ | refine gh ?_ | exact qq | fail)
    refine pcond rfl ?_ ?_ <;> intro hc
    · have hc : i < nk := by have : (i : Int) < (nk : Int) := of_decide_eq_true hc; omega
      have hcI : (0 : Int) ≤ (i : Int) ∧ (i : Int) < (nk : Int) := ⟨by omega, by omega⟩
      have ihk := (ih i hc).own M m hMl (hJ M i hc hM)
      repeat' (first | refine gg ?_ | exact trivial | with_reducible refine wA ?_ ?_ | refine Y2.mk ?_ ?_ | refine xs_startH (id := 4) [1,2] true [.take 0, .take 1, .take 2, .take 3, .take 4, .take 5, .take 6, .take 7, .one 8, .take 9] 0 rfl (by kernel_rfl) ?_ | exact hc | exact hcI | (refine xs_one (ch := [0]) rfl rfl rfl (pst_rowsc [0] rfl rfl rfl rfl rfl rfl (by exact .cons rfl trivial (RowEq.cl (oI_cl _ _)) .nil) ihk (by exact argsW (PEq.refl _)) ?_); rintro r rows ⟨m2, M2, hM2l, hM2, ⟨rfl, rfl⟩ | ⟨k3, g3, rfl, rfl⟩⟩) | (refine ⟨_, _, rfl, ⟨oI_cl _ _, trivial⟩, rfl, ?_⟩) | (refine ⟨_, _, rfl, ⟨oI_cl _ _, oI_cl _ _, trivial⟩, rfl, ?_⟩) | refine gh ?_ | exact qq | fail)
      · refine xdone ?_
        rw [hw1]
        exact kloop_next (st' := ⟨[(1, sV act), (3, .lsl 0 0 (m2 + 1)), (4, .ptr 1 0 0), (6, .ptr 2 0 0), (9, vi ((i + 1 : Nat) : Int))], [oRow c1 1 (m2 + 1) (lF 0 M2), rA1 nm l, rXE (.mk op vn vd um uh ud nm0 cnt mode nk kf)]⟩) (nk - (i + 1)) (can_rowsv [0, 1, 2] (k0_sel hk rfl) rfl (.cons rfl (RowEq.cl (oI_cl _ _)) (.cons rfl (RowEq.cl (rA1_cl _ _)) (.cons rfl (RowEq.cl (rXE_cl _)) .nil))) tmq) (by omega) ⟨i + 1, m2, M2, by omega, hM2l, hM.trans hM2, rfl, .inl rfl⟩
      · refine xdone ?_
        rw [hw1]
        exact kloop_next (st' := ⟨[(1, sV act), (3, .lsl 1 0 (m2 + 1)), (4, .ptr 2 0 0), (6, .ptr 3 0 0), (9, vi ((i + 1 : Nat) : Int))], [oRow c1 1 _ _, oRow c1 1 (m2 + 1) (lF 0 M2), rA1 nm l, rXE (.mk op vn vd um uh ud nm0 cnt mode nk kf)]⟩) (nk - (i + 1)) (can_rowsv [0, 3, 1, 2] (k0_sel hk rfl) rfl (.cons rfl (RowEq.cl (oI_cl _ _)) (.cons rfl (RowEq.cl (oI_cl _ _)) (.cons rfl (RowEq.cl (rA1_cl _ _)) (.cons rfl (RowEq.cl (rXE_cl _)) .nil)))) tmq) (by omega) ⟨i + 1, m2, M2, by omega, hM2l, hM.trans hM2, rfl, .inr ⟨_, _, rfl⟩⟩
    · have hin : nk = i := by have : ¬ (i : Int) < (nk : Int) := of_decide_eq_false hc; omega
      subst hin
      have hMb := hB M hM
      repeat' (first | refine gg ?_ | exact trivial | with_reducible refine wA ?_ ?_ | refine Y2.mk ?_ ?_ | refine gh ?_ | exact qq | fail)
      refine pcond (b := !decide (op = 3 ∨ op = 4)) ?_ ?_ ?_
      · refine eqB ?_
        show (bif !(op == 3) then !(op == 4) else false) = _
        by_cases e1 : op = 3 <;> by_cases e2 : op = 4 <;> simp [e1, e2]
      · intro h
        have h := of_decide_eq_false (nv_t h)
        repeat' (first | refine gg ?_ | exact trivial | with_reducible refine wA ?_ ?_ | refine Y2.mk ?_ ?_ | refine gh ?_ | exact qq | fail)
        refine kretr (st' := ⟨[(8, .lsl 0 0 (m + 1))], [oRow c1 1 (m + 1) (lF 0 M)]⟩) (can_rowsv [0] (k0_sel hk rfl) rfl (.cons rfl (RowEq.cl (oI_cl _ _)) .nil) tmq) rfl ⟨trivial, trivial⟩ rfl ⟨m, M, hMl, (by rw [hR0 h]; exact hM), .inl ⟨rfl, rfl⟩⟩
      · intro h
        have h := of_decide_eq_true (nv_f h)
        have cm := means21_c nm l act nm0 (op == 4) hl ha hin
        have hmn := mnE_op (l := l) (act := act) (vn := vn) (vd := vd) (um := um) (uh := uh) (ud := ud) (nm0 := nm0) (cnt := cnt) (mode := mode) (nk := nk) (kf := kf) h
        rw [hR1 h]
        rw [← hmn] at cm
        obtain ⟨mn, hmn2⟩ : ∃ mn, mnE l act (.mk op vn vd um uh ud nm0 cnt mode nk kf) = mn := ⟨_, rfl⟩
        rw [hmn2] at cm
        have hAd : MemOk (mnE l act) P ([(.mk op vn vd um uh ud nm0 cnt mode nk kf)] ++ flatK nk fun i => refsE (kf i)) (M ++ [mn]) := by rw [← hmn2]; exact hM.add
        repeat' (first | refine gg ?_ | exact trivial | with_reducible refine wA ?_ ?_ | refine Y2.mk ?_ ?_ | refine zz cm ?_ | refine gh ?_ | exact qq | fail)
        refine pcan (st' := ⟨[(3, .lsl 0 0 (m + 1)), (10, vi mn), (11, vi ((0 : Nat) : Int))], [oRow c1 1 (m + 1) (lF 0 M)]⟩) (can_rowsv [0] (k0_sel hk rfl) rfl (.cons rfl (RowEq.cl (oI_cl _ _)) .nil) tmq) ?_
        refine ploop (fun q st => ∃ j : Nat, j ≤ (m + 1) ∧ (∀ j', j' < j → lF 0 M j' ≠ mn) ∧ q = (m + 1) - j ∧ st = ⟨[(3, .lsl 0 0 (m + 1)), (10, vi mn), (11, vi j)], [oRow c1 1 (m + 1) (lF 0 M)]⟩) (m + 1) ⟨0, Nat.zero_le _, fun j hj => absurd hj (Nat.not_lt_zero j), rfl, rfl⟩ ?_
        rintro _ _ ⟨j, hj, hv, rfl, rfl⟩
        have hwj : IntKind.i64.wrap ((j : Int) + 1) = ((j + 1 : Nat) : Int) := w64 (by omega) (by omega)
        repeat' (first | refine gg ?_ | exact trivial | with_reducible refine wA ?_ ?_ | refine Y2.mk ?_ ?_ | refine gh ?_ | exact qq | fail)
        refine pcond rfl ?_ ?_ <;> intro hc
        · have hc : j < (m + 1) := by have : (j : Int) < (((m + 1) : Nat) : Int) := of_decide_eq_true hc; omega
          have hz : 0 + (j : Int).toNat = j := by omega
          repeat' (first | refine gg ?_ | exact trivial | with_reducible refine wA ?_ ?_ | refine Y2.mk ?_ ?_ | (exact (show 0 + (j : Int).toNat < (m + 1) by omega)) | (exact ⟨(show (0 : Int) ≤ (j : Int) by omega), (show (j : Int) < (((m + 1) : Nat) : Int) by omega)⟩) | refine gh ?_ | exact qq | fail)
          refine pcond (b := decide (lF 0 M j = mn)) ?_ ?_ ?_
          · refine eqB ?_
            rw [hz]; exact bqd _ _
          · intro h1
            have h1 := of_decide_eq_true h1
            have hin : mnE l act (.mk op vn vd um uh ud nm0 cnt mode nk kf) ∈ M := by rw [hmn2, ← h1, lF_get' (by omega)]; exact List.getElem_mem _
            repeat' (first | refine gg ?_ | exact trivial | with_reducible refine wA ?_ ?_ | refine Y2.mk ?_ ?_ | refine gh ?_ | exact qq | fail)
            refine xdone ?_
            refine kretr (st' := ⟨[(8, .lsl 0 0 (m + 1))], [oRow c1 1 (m + 1) (lF 0 M)]⟩) (can_rowsv [0] (k0_sel hk rfl) rfl (.cons rfl (RowEq.cl (oI_cl _ _)) .nil) tmq) rfl ⟨trivial, trivial⟩ rfl ⟨m, M, hMl, (hM.found hin), .inl ⟨rfl, rfl⟩⟩
          · intro h1
            have h1 := of_decide_eq_false h1
            repeat' (first | refine gg ?_ | exact trivial | with_reducible refine wA ?_ ?_ | refine Y2.mk ?_ ?_ | refine gh ?_ | exact qq | fail)
            refine xdone ?_
            rw [hwj]
            exact kloop_next (st' := ⟨[(3, .lsl 0 0 (m + 1)), (10, vi mn), (11, vi ((j + 1 : Nat) : Int))], [oRow c1 1 (m + 1) (lF 0 M)]⟩) ((m + 1) - (j + 1)) (can_rowsv [0] (k0_sel hk rfl) rfl (.cons rfl (RowEq.cl (oI_cl _ _)) .nil) tmq) (by omega) ⟨j + 1, by omega, fun j' hj' => by
              by_cases e : j' = j
              · subst e; exact h1
              · exact hv j' (by omega), rfl, rfl⟩
        · refine xw 9 rfl trivial ?_
          refine xdone ?_
          refine kloop_exit ?_
          refine xk 7 rfl (by first | exact ⟨trivial, trivial, trivial, trivial⟩ | exact ⟨trivial, trivial, trivial⟩ | exact ⟨trivial, trivial⟩) ?_
          show POps _ _ _ _ (_ :: _) _ _
          refine pop_app2 rfl rfl rfl rfl rfl rfl rfl rfl rfl rfl rfl rfl rfl rfl rfl trivial rfl (Nat.le_refl 1) (Nat.le_refl (m + 1)) (Nat.succ_pos m) Nat.zero_lt_one (show (m + 1 + 1) * 8 ≤ 140737488355328 by omega) (show m + 1 + 1 ≤ 9223372036854775807 by omega) rfl rfl ?_ ?_
          · repeat' (first | refine gg ?_ | exact trivial | with_reducible refine wA ?_ ?_ | refine Y2.mk ?_ ?_ | refine gh ?_ | exact qq | fail)
            refine xdone ?_
            refine kretr (st' := ⟨[(8, .lsl 0 0 (m + 1 + 1))], [oRow c1 1 (m + 1 + 1) (lF 0 (M ++ [mn]))]⟩) (can_rowsv [0] (k0_sel hk rfl) rfl (.cons rfl (app_I hMl rfl rfl rfl fun b => by show nthP _ (0 * 1 + b) = _; rw [Nat.zero_mul, Nat.zero_add]) .nil) tmq) rfl ⟨trivial, trivial⟩ rfl ⟨(m + 1), (M ++ [mn]), (by rw [List.length_append, hMl]; rfl), hAd, .inl ⟨rfl, rfl⟩⟩
          · repeat' (first | refine gg ?_ | exact trivial | with_reducible refine wA ?_ ?_ | refine Y2.mk ?_ ?_ | refine gh ?_ | exact qq | fail)
            refine xdone ?_
            refine kretr (st' := ⟨[(8, .lsl 1 0 (m + 1 + 1))], [oRow c1 1 _ _, oRow c1 1 (m + 1 + 1) (lF 0 (M ++ [mn]))]⟩) (can_rowsv [0, 2] (k0_sel hk rfl) rfl (.cons rfl (RowEq.cl (oI_cl _ _)) (.cons rfl (app_I hMl rfl rfl rfl fun b => by show nthP _ (0 * 1 + b) = _; rw [Nat.zero_mul, Nat.zero_add]) .nil)) tmq) rfl ⟨trivial, trivial⟩ rfl ⟨(m + 1), (M ++ [mn]), (by rw [List.length_append, hMl]; rfl), hAd, .inr ⟨_, _, rfl, rfl⟩⟩
  · repeat' (first | refine gg ?_ | exact trivial | with_reducible refine wA ?_ ?_ | refine Y2.mk ?_ ?_ | refine gh ?_ | exact qq | fail)
    refine pcond rfl ?_ ?_ <;> intro hc
    · have hc : i < nk := by have : (i : Int) < (nk : Int) := of_decide_eq_true hc; omega
      have hcI : (0 : Int) ≤ (i : Int) ∧ (i : Int) < (nk : Int) := ⟨by omega, by omega⟩
      have ihk := (ih i hc).own M m hMl (hJ M i hc hM)
      repeat' (first | refine gg ?_ | exact trivial | with_reducible refine wA ?_ ?_ | refine Y2.mk ?_ ?_ | refine xs_startH (id := 4) [0,2,3] true [.take 0, .take 1, .take 2, .take 3, .take 4, .take 5, .take 6, .take 7, .one 8, .take 9] 0 rfl (by kernel_rfl) ?_ | exact hc | exact hcI | (refine xs_one (ch := [1]) rfl rfl rfl (pst_rowsc [1] rfl rfl rfl rfl rfl rfl (by exact .cons rfl trivial (RowEq.cl (oI_cl _ _)) .nil) ihk (by exact argsW (PEq.refl _)) ?_); rintro r rows ⟨m2, M2, hM2l, hM2, ⟨rfl, rfl⟩ | ⟨k3, g3, rfl, rfl⟩⟩) | (refine ⟨_, _, rfl, ⟨oI_cl _ _, trivial⟩, rfl, ?_⟩) | (refine ⟨_, _, rfl, ⟨oI_cl _ _, oI_cl _ _, trivial⟩, rfl, ?_⟩) | refine gh ?_ | exact qq | fail)
      · refine xdone ?_
        rw [hw1]
        exact kloop_next (st' := ⟨[(1, sV act), (3, .lsl 1 0 (m2 + 1)), (4, .ptr 2 0 0), (6, .ptr 3 0 0), (9, vi ((i + 1 : Nat) : Int))], [oRow c1 1 _ _, oRow c1 1 (m2 + 1) (lF 0 M2), rA1 nm l, rXE (.mk op vn vd um uh ud nm0 cnt mode nk kf)]⟩) (nk - (i + 1)) (can_rowsv [0, 1, 2, 3] (k0_sel hk rfl) rfl (.cons rfl (RowEq.cl (oI_cl _ _)) (.cons rfl (RowEq.cl (oI_cl _ _)) (.cons rfl (RowEq.cl (rA1_cl _ _)) (.cons rfl (RowEq.cl (rXE_cl _)) .nil)))) tmq) (by omega) ⟨i + 1, m2, M2, by omega, hM2l, hM.trans hM2, rfl, .inr ⟨_, _, rfl⟩⟩
      · refine xdone ?_
        rw [hw1]
        exact kloop_next (st' := ⟨[(1, sV act), (3, .lsl 1 0 (m2 + 1)), (4, .ptr 2 0 0), (6, .ptr 3 0 0), (9, vi ((i + 1 : Nat) : Int))], [oRow c1 1 _ _, oRow c1 1 (m2 + 1) (lF 0 M2), rA1 nm l, rXE (.mk op vn vd um uh ud nm0 cnt mode nk kf)]⟩) (nk - (i + 1)) (can_rowsv [0, 4, 2, 3] (k0_sel hk rfl) rfl (.cons rfl (RowEq.cl (oI_cl _ _)) (.cons rfl (RowEq.cl (oI_cl _ _)) (.cons rfl (RowEq.cl (rA1_cl _ _)) (.cons rfl (RowEq.cl (rXE_cl _)) .nil)))) tmq) (by omega) ⟨i + 1, m2, M2, by omega, hM2l, hM.trans hM2, rfl, .inr ⟨_, _, rfl⟩⟩
    · have hin : nk = i := by have : ¬ (i : Int) < (nk : Int) := of_decide_eq_false hc; omega
      subst hin
      have hMb := hB M hM
      repeat' (first | refine gg ?_ | exact trivial | with_reducible refine wA ?_ ?_ | refine Y2.mk ?_ ?_ | refine gh ?_ | exact qq | fail)
      refine pcond (b := !decide (op = 3 ∨ op = 4)) ?_ ?_ ?_
      · refine eqB ?_
        show (bif !(op == 3) then !(op == 4) else false) = _
        by_cases e1 : op = 3 <;> by_cases e2 : op = 4 <;> simp [e1, e2]
      · intro h
        have h := of_decide_eq_false (nv_t h)
        repeat' (first | refine gg ?_ | exact trivial | with_reducible refine wA ?_ ?_ | refine Y2.mk ?_ ?_ | refine gh ?_ | exact qq | fail)
        refine kretr (st' := ⟨[(8, .lsl 1 0 (m + 1))], [oRow c1 1 _ _, oRow c1 1 (m + 1) (lF 0 M)]⟩) (can_rowsv [0, 1] (k0_sel hk rfl) rfl (.cons rfl (RowEq.cl (oI_cl _ _)) (.cons rfl (RowEq.cl (oI_cl _ _)) .nil)) tmq) rfl ⟨trivial, trivial⟩ rfl ⟨m, M, hMl, (by rw [hR0 h]; exact hM), .inr ⟨_, _, rfl, rfl⟩⟩
      · intro h
        have h := of_decide_eq_true (nv_f h)
        have cm := means21_c nm l act nm0 (op == 4) hl ha hin
        have hmn := mnE_op (l := l) (act := act) (vn := vn) (vd := vd) (um := um) (uh := uh) (ud := ud) (nm0 := nm0) (cnt := cnt) (mode := mode) (nk := nk) (kf := kf) h
        rw [hR1 h]
        rw [← hmn] at cm
        obtain ⟨mn, hmn2⟩ : ∃ mn, mnE l act (.mk op vn vd um uh ud nm0 cnt mode nk kf) = mn := ⟨_, rfl⟩
        rw [hmn2] at cm
        have hAd : MemOk (mnE l act) P ([(.mk op vn vd um uh ud nm0 cnt mode nk kf)] ++ flatK nk fun i => refsE (kf i)) (M ++ [mn]) := by rw [← hmn2]; exact hM.add
        repeat' (first | refine gg ?_ | exact trivial | with_reducible refine wA ?_ ?_ | refine Y2.mk ?_ ?_ | refine zz cm ?_ | refine gh ?_ | exact qq | fail)
        refine pcan (st' := ⟨[(3, .lsl 1 0 (m + 1)), (10, vi mn), (11, vi ((0 : Nat) : Int))], [oRow c1 1 k2 g2, oRow c1 1 (m + 1) (lF 0 M)]⟩) (can_rowsv [0, 1] (k0_sel hk rfl) rfl (.cons rfl (RowEq.cl (oI_cl _ _)) (.cons rfl (RowEq.cl (oI_cl _ _)) .nil)) tmq) ?_
        refine ploop (fun q st => ∃ j : Nat, j ≤ (m + 1) ∧ (∀ j', j' < j → lF 0 M j' ≠ mn) ∧ q = (m + 1) - j ∧ st = ⟨[(3, .lsl 1 0 (m + 1)), (10, vi mn), (11, vi j)], [oRow c1 1 k2 g2, oRow c1 1 (m + 1) (lF 0 M)]⟩) (m + 1) ⟨0, Nat.zero_le _, fun j hj => absurd hj (Nat.not_lt_zero j), rfl, rfl⟩ ?_
        rintro _ _ ⟨j, hj, hv, rfl, rfl⟩
        have hwj : IntKind.i64.wrap ((j : Int) + 1) = ((j + 1 : Nat) : Int) := w64 (by omega) (by omega)
        repeat' (first | refine gg ?_ | exact trivial | with_reducible refine wA ?_ ?_ | refine Y2.mk ?_ ?_ | refine gh ?_ | exact qq | fail)
        refine pcond rfl ?_ ?_ <;> intro hc
        · have hc : j < (m + 1) := by have : (j : Int) < (((m + 1) : Nat) : Int) := of_decide_eq_true hc; omega
          have hz : 0 + (j : Int).toNat = j := by omega
          repeat' (first | refine gg ?_ | exact trivial | with_reducible refine wA ?_ ?_ | refine Y2.mk ?_ ?_ | (exact (show 0 + (j : Int).toNat < (m + 1) by omega)) | (exact ⟨(show (0 : Int) ≤ (j : Int) by omega), (show (j : Int) < (((m + 1) : Nat) : Int) by omega)⟩) | refine gh ?_ | exact qq | fail)
          refine pcond (b := decide (lF 0 M j = mn)) ?_ ?_ ?_
          · refine eqB ?_
            rw [hz]; exact bqd _ _
          · intro h1
            have h1 := of_decide_eq_true h1
            have hin : mnE l act (.mk op vn vd um uh ud nm0 cnt mode nk kf) ∈ M := by rw [hmn2, ← h1, lF_get' (by omega)]; exact List.getElem_mem _
            repeat' (first | refine gg ?_ | exact trivial | with_reducible refine wA ?_ ?_ | refine Y2.mk ?_ ?_ | refine gh ?_ | exact qq | fail)
            refine xdone ?_
            refine kretr (st' := ⟨[(8, .lsl 1 0 (m + 1))], [oRow c1 1 _ _, oRow c1 1 (m + 1) (lF 0 M)]⟩) (can_rowsv [0, 1] (k0_sel hk rfl) rfl (.cons rfl (RowEq.cl (oI_cl _ _)) (.cons rfl (RowEq.cl (oI_cl _ _)) .nil)) tmq) rfl ⟨trivial, trivial⟩ rfl ⟨m, M, hMl, (hM.found hin), .inr ⟨_, _, rfl, rfl⟩⟩
          · intro h1
            have h1 := of_decide_eq_false h1
            repeat' (first | refine gg ?_ | exact trivial | with_reducible refine wA ?_ ?_ | refine Y2.mk ?_ ?_ | refine gh ?_ | exact qq | fail)
            refine xdone ?_
            rw [hwj]
            exact kloop_next (st' := ⟨[(3, .lsl 1 0 (m + 1)), (10, vi mn), (11, vi ((j + 1 : Nat) : Int))], [oRow c1 1 k2 g2, oRow c1 1 (m + 1) (lF 0 M)]⟩) ((m + 1) - (j + 1)) (can_rowsv [0, 1] (k0_sel hk rfl) rfl (.cons rfl (RowEq.cl (oI_cl _ _)) (.cons rfl (RowEq.cl (oI_cl _ _)) .nil)) tmq) (by omega) ⟨j + 1, by omega, fun j' hj' => by
              by_cases e : j' = j
              · subst e; exact h1
              · exact hv j' (by omega), rfl, rfl⟩
        · repeat' (first | refine gg ?_ | exact trivial | with_reducible refine wA ?_ ?_ | refine Y2.mk ?_ ?_ | exact ⟨Nat.le_refl _, (by rw [hk]; exact Nat.le_of_ble_eq_true rfl), Nat.le_of_eq (Nat.zero_add _), (show (_ : Nat) * 8 ≤ 140737488355328 from by omega), (show (_ : Nat) ≤ 9223372036854775807 from by omega)⟩ | refine gh ?_ | exact qq | fail)
          refine xdone ?_
          refine kretr (st' := ⟨[(8, .lsl 1 0 (m + 1 + 1))], [oRow c1 1 _ _, oRow c1 1 (m + 1 + 1) (lF 0 (M ++ [mn]))]⟩) (can_rowsv [0, 3] (k0_sel hk rfl) rfl (.cons rfl (RowEq.cl (oI_cl _ _)) (.cons rfl (app_l c1_cl hMl rfl rfl) .nil)) tmq) rfl ⟨trivial, trivial⟩ rfl ⟨m + 1, (M ++ [mn]), (by rw [List.length_append, hMl]; rfl), hAd, .inr ⟨_, _, rfl, rfl⟩⟩
set_option maxHeartbeats 16000000 in
theorem walk_nil (nm : ByteArray) (l : List Df) (act : List Int) (hl : l.length ≤ 1000000) (ha : act.length ≤ 1000000) (hin : ∀ x, x ∈ act → 0 ≤ x ∧ x < l.length) (op vn vd um uh ud : Int) (nm0 : ByteArray) (cnt mode : Int) (nk : Nat) (kf : Nat → Ex) (hnk : nk ≤ 1000000) (ih : ∀ i, i < nk → WkC nm l act (kf i)) (hw : (Ex.mk op vn vd um uh ud nm0 cnt mode nk kf).w ≤ 1000000) :
    RowsC G.P 74 [] [vA nm l, sV act, vX (.mk op vn vd um uh ud nm0 cnt mode nk kf), nilX] (fun r rows => ∃ (k : Nat) (M : List Int), M.length = k ∧ MemOk (mnE l act) [] (refsE (.mk op vn vd um uh ud nm0 cnt mode nk kf)) M ∧ r = slP k 0 ∧ rows = [vRow c1 1 k (lF 0 M)]) := by
  have hR0 : ¬ (op = 3 ∨ op = 4) → refsE (.mk op vn vd um uh ud nm0 cnt mode nk kf) = [] ++ flatK nk fun i => refsE (kf i) := fun h => by show (if op = 3 ∨ op = 4 then _ else _) ++ _ = _; rw [if_neg h]
  have hR1 : (op = 3 ∨ op = 4) → refsE (.mk op vn vd um uh ud nm0 cnt mode nk kf) = [(.mk op vn vd um uh ud nm0 cnt mode nk kf)] ++ flatK nk fun i => refsE (kf i) := fun h => by show (if op = 3 ∨ op = 4 then _ else _) ++ _ = _; rw [if_pos h]
  have hJ : ∀ (M : List Int) (i : Nat), i < nk → MemOk (mnE l act) [] (flatK i fun i => refsE (kf i)) M → M.length + (kf i).w ≤ 1000000 := fun M i hi hM => by
    have := bound_X (op := op) (vn := vn) (vd := vd) (um := um) (uh := uh) (ud := ud) (nm := nm0) (cnt := cnt) (mode := mode) (kf := kf) (E0 := []) (Nat.zero_le _) hi
    have := hM.len
    rw [List.nil_append] at *
    simp only [List.length_nil] at this; omega
  have hB : ∀ (M : List Int), MemOk (mnE l act) [] (flatK nk fun i => refsE (kf i)) M → M.length ≤ 1000000 := fun M hM => by
    have h1 := hM.len
    have h2 := refs_len (.mk op vn vd um uh ud nm0 cnt mode nk kf)
    have h3 : (flatK nk fun i => refsE (kf i)).length ≤ (refsE (.mk op vn vd um uh ud nm0 cnt mode nk kf)).length := by
      rw [refsE, List.length_append]; omega
    simp only [List.length_nil] at h1; omega
  refine rows_of (G := G.toPg) (fn := Tryz.f74) Tryz.func74 rfl rfl rfl ?_; intro Γ hk
  replace hk : Γ.k0 = 0 := hk
  repeat' (first | refine gg ?_ | exact trivial | with_reducible refine wA ?_ ?_ | refine Y2.mk ?_ ?_ | refine gh ?_ | exact qq | fail)
  refine pcan (can_virt (vRow c1 1 0 (lF 0 [])) rfl) ?_
  refine pcan (st' := ⟨[(1, sV act), (3, slP 0 0), (4, .ptr 1 0 0), (6, .ptr 2 0 0), (9, vi ((0 : Nat) : Int))], [vRow c1 1 0 (lF 0 []), rA1 nm l, rXE (.mk op vn vd um uh ud nm0 cnt mode nk kf)]⟩) (can_rowsv [2, 0, 1] (k0_sel hk rfl) rfl (.cons rfl (RowEq.cl (v_cl c1_cl _ _ _)) (.cons rfl (RowEq.cl (rA1_cl _ _)) (.cons rfl (RowEq.cl (rXE_cl _)) .nil))) tmq) ?_
  refine ploop (fun q st => ∃ (i m : Nat) (M : List Int), i ≤ nk ∧ M.length = m ∧ MemOk (mnE l act) [] (flatK i fun i => refsE (kf i)) M ∧ q = nk - i ∧ st = ⟨[(1, sV act), (3, slP m 0), (4, .ptr 1 0 0), (6, .ptr 2 0 0), (9, vi i)], [vRow c1 1 m (lF 0 M), rA1 nm l, rXE (.mk op vn vd um uh ud nm0 cnt mode nk kf)]⟩) nk ⟨0, 0, [], Nat.zero_le _, rfl, .nil, by omega, rfl⟩ ?_
  rintro _ _ ⟨i, m, M, hi, hMl, hM, rfl, rfl⟩
  have hw1 : IntKind.i64.wrap ((i : Int) + 1) = ((i + 1 : Nat) : Int) := w64 (by omega) (by omega)
  have hcI : i < nk → (0 : Int) ≤ (i : Int) ∧ (i : Int) < (nk : Int) := fun _ => ⟨by omega, by omega⟩
  rcases m with _ | m
  · have hMe := List.length_eq_zero_iff.1 hMl
    repeat' (first | refine gg ?_ | exact trivial | with_reducible refine wA ?_ ?_ | refine Y2.mk ?_ ?_ | refine gh ?_ | exact qq | fail)
    refine pcond rfl ?_ ?_ <;> intro hc
    · have hc : i < nk := by have : (i : Int) < (nk : Int) := of_decide_eq_true hc; omega
      have hcI := hcI hc
      have ihk := (ih i hc).nil
      repeat' (first | refine gg ?_ | exact trivial | with_reducible refine wA ?_ ?_ | refine Y2.mk ?_ ?_ | refine xs_startH (id := 4) [0,1,2] true [.take 0, .take 1, .take 2, .take 3, .take 4, .take 5, .take 6, .take 7, .one 8, .take 9] 0 rfl (by kernel_rfl) ?_ | exact hc | exact hcI | (refine xs_one (ch := []) rfl rfl rfl (pst_rowsc [] rfl rfl rfl rfl rfl rfl .nil ihk (by exact argsW (PEq.refl _)) ?_); rintro r rows ⟨k2, M2, hM2l, hM2, rfl, rfl⟩; rcases k2 with _ | k2) | (refine ⟨_, _, rfl, ⟨v_cl c1_cl _ _ _, trivial⟩, rfl, ?_⟩) | refine gh ?_ | exact qq | fail)
      · refine xdone ?_
        rw [hw1]
        exact kloop_next (st' := ⟨[(1, sV act), (3, slP 0 0), (4, .ptr 1 0 0), (6, .ptr 2 0 0), (9, vi ((i + 1 : Nat) : Int))], [vRow c1 1 0 (lF 0 M2), rA1 nm l, rXE (.mk op vn vd um uh ud nm0 cnt mode nk kf)]⟩) (nk - (i + 1)) (can_rowsv [0, 1, 2] (k0_sel hk rfl) rfl (.cons rfl (rowI_nil) (.cons rfl (RowEq.cl (rA1_cl _ _)) (.cons rfl (RowEq.cl (rXE_cl _)) .nil))) tmq) (by omega) ⟨i + 1, 0, M2, by omega, hM2l, hM.trans (by rw [hMe]; exact hM2), rfl, rfl⟩
      · refine xdone ?_
        rw [hw1]
        exact kloop_next (st' := ⟨[(1, sV act), (3, slP (k2 + 1) 0), (4, .ptr 1 0 0), (6, .ptr 2 0 0), (9, vi ((i + 1 : Nat) : Int))], [vRow c1 1 (k2 + 1) (lF 0 M2), rA1 nm l, rXE (.mk op vn vd um uh ud nm0 cnt mode nk kf)]⟩) (nk - (i + 1)) (can_rowsv [3, 1, 2] (k0_sel hk rfl) rfl (.cons rfl (RowEq.cl (v_cl c1_cl _ _ _)) (.cons rfl (RowEq.cl (rA1_cl _ _)) (.cons rfl (RowEq.cl (rXE_cl _)) .nil))) tmq) (by omega) ⟨i + 1, (k2 + 1), M2, by omega, hM2l, hM.trans (by rw [hMe]; exact hM2), rfl, rfl⟩
    · have hin : nk = i := by have : ¬ (i : Int) < (nk : Int) := of_decide_eq_false hc; omega
      subst hin
      have hMb := hB M hM
      repeat' (first | refine gg ?_ | exact trivial | with_reducible refine wA ?_ ?_ | refine Y2.mk ?_ ?_ | refine gh ?_ | exact qq | fail)
      refine pcond (b := !decide (op = 3 ∨ op = 4)) ?_ ?_ ?_
      · refine eqB ?_
        show (bif !(op == 3) then !(op == 4) else false) = _
        by_cases e1 : op = 3 <;> by_cases e2 : op = 4 <;> simp [e1, e2]
      · intro h
        have h := of_decide_eq_false (nv_t h)
        repeat' (first | refine gg ?_ | exact trivial | with_reducible refine wA ?_ ?_ | refine Y2.mk ?_ ?_ | refine gh ?_ | exact qq | fail)
        refine kretr (st' := ⟨[(8, slP 0 0)], [vRow c1 1 0 (lF 0 M)]⟩) (can_rowsv [0] (k0_sel hk rfl) rfl (.cons rfl (RowEq.cl (v_cl c1_cl _ _ _)) .nil) tmq) rfl ⟨trivial, trivial⟩ rfl ⟨0, M, hMl, (by rw [hR0 h]; exact hM), rfl, rfl⟩
      · intro h
        have h := of_decide_eq_true (nv_f h)
        have cm := means21_c nm l act nm0 (op == 4) hl ha hin
        have hmn := mnE_op (l := l) (act := act) (vn := vn) (vd := vd) (um := um) (uh := uh) (ud := ud) (nm0 := nm0) (cnt := cnt) (mode := mode) (nk := nk) (kf := kf) h
        rw [hR1 h]
        rw [← hmn] at cm
        obtain ⟨mn, hmn2⟩ : ∃ mn, mnE l act (.mk op vn vd um uh ud nm0 cnt mode nk kf) = mn := ⟨_, rfl⟩
        rw [hmn2] at cm
        have hAd : MemOk (mnE l act) [] ([(.mk op vn vd um uh ud nm0 cnt mode nk kf)] ++ flatK nk fun i => refsE (kf i)) (M ++ [mn]) := by rw [← hmn2]; exact hM.add
        repeat' (first | refine gg ?_ | exact trivial | with_reducible refine wA ?_ ?_ | refine Y2.mk ?_ ?_ | refine zz cm ?_ | refine gh ?_ | exact qq | fail)
        refine pcan (st' := ⟨[(3, slP 0 0), (10, vi mn), (11, vi ((0 : Nat) : Int))], [vRow c1 1 0 (lF 0 M)]⟩) (can_rowsv [0] (k0_sel hk rfl) rfl (.cons rfl (RowEq.cl (v_cl c1_cl _ _ _)) .nil) tmq) ?_
        refine ploop (fun q st => ∃ j : Nat, j ≤ 0 ∧ (∀ j', j' < j → lF 0 M j' ≠ mn) ∧ q = 0 - j ∧ st = ⟨[(3, slP 0 0), (10, vi mn), (11, vi j)], [vRow c1 1 0 (lF 0 M)]⟩) 0 ⟨0, Nat.zero_le _, fun j hj => absurd hj (Nat.not_lt_zero j), rfl, rfl⟩ ?_
        rintro _ _ ⟨j, hj, hv, rfl, rfl⟩
        have hwj : IntKind.i64.wrap ((j : Int) + 1) = ((j + 1 : Nat) : Int) := w64 (by omega) (by omega)
        obtain rfl : j = 0 := by omega
        repeat' (first | refine gg ?_ | exact trivial | with_reducible refine wA ?_ ?_ | refine Y2.mk ?_ ?_ | exact ⟨Nat.le_refl _, (by rw [hk]; exact Nat.le_of_ble_eq_true rfl), Nat.le_of_eq (Nat.zero_add _), (show (_ : Nat) * 8 ≤ 140737488355328 from by omega), (show (_ : Nat) ≤ 9223372036854775807 from by omega)⟩ | refine gh ?_ | exact qq | fail)
        refine xdone ?_
        refine kretr (st' := ⟨[(8, slP (0 + 1) 0)], [vRow c1 1 (0 + 1) (lF 0 (M ++ [mn]))]⟩) (can_rowsv [2] (k0_sel hk rfl) rfl (.cons rfl (app_l0 c1_cl hMl rfl) .nil) tmq) rfl ⟨trivial, trivial⟩ rfl ⟨(0 + 1), (M ++ [mn]), (by rw [List.length_append, hMl]; rfl), hAd, rfl, rfl⟩
  · repeat' (first | refine gg ?_ | exact trivial | with_reducible refine wA ?_ ?_ | refine Y2.mk ?_ ?_ | refine gh ?_ | exact qq | fail)
    refine pcond rfl ?_ ?_ <;> intro hc
    · have hc : i < nk := by have : (i : Int) < (nk : Int) := of_decide_eq_true hc; omega
      have hcI := hcI hc
      have ihk := (ih i hc).own M m hMl (hJ M i hc hM)
      repeat' (first | refine gg ?_ | exact trivial | with_reducible refine wA ?_ ?_ | refine Y2.mk ?_ ?_ | refine xs_startH (id := 4) [1,2] true [.take 0, .take 1, .take 2, .take 3, .take 4, .take 5, .take 6, .take 7, .one 8, .take 9] 0 rfl (by kernel_rfl) ?_ | exact hc | exact hcI | (refine xs_one (ch := [0]) rfl rfl rfl (pst_rowsc [0] rfl rfl rfl rfl rfl rfl (by exact .cons rfl trivial (RowEq.cl (oI_cl _ _)) .nil) ihk (by exact argsW (PEq.refl _)) ?_); rintro r rows ⟨m2, M2, hM2l, hM2, ⟨rfl, rfl⟩ | ⟨k3, g3, rfl, rfl⟩⟩) | (refine ⟨_, _, rfl, ⟨oI_cl _ _, trivial⟩, rfl, ?_⟩) | (refine ⟨_, _, rfl, ⟨oI_cl _ _, oI_cl _ _, trivial⟩, rfl, ?_⟩) | refine gh ?_ | exact qq | fail)
      · refine xdone ?_
        rw [hw1]
        exact kloop_next (st' := ⟨[(1, sV act), (3, slP (m2 + 1) 0), (4, .ptr 1 0 0), (6, .ptr 2 0 0), (9, vi ((i + 1 : Nat) : Int))], [vRow c1 1 (m2 + 1) (lF 0 M2), rA1 nm l, rXE (.mk op vn vd um uh ud nm0 cnt mode nk kf)]⟩) (nk - (i + 1)) (can_rowsv [0, 1, 2] (k0_sel hk rfl) rfl (.cons rfl (RowEq.cl (v_cl c1_cl _ _ _)) (.cons rfl (RowEq.cl (rA1_cl _ _)) (.cons rfl (RowEq.cl (rXE_cl _)) .nil))) tmq) (by omega) ⟨i + 1, (m2 + 1), M2, by omega, hM2l, hM.trans hM2, rfl, rfl⟩
      · refine xdone ?_
        rw [hw1]
        exact kloop_next (st' := ⟨[(1, sV act), (3, slP (m2 + 1) 0), (4, .ptr 1 0 0), (6, .ptr 2 0 0), (9, vi ((i + 1 : Nat) : Int))], [vRow c1 1 (m2 + 1) (lF 0 M2), rA1 nm l, rXE (.mk op vn vd um uh ud nm0 cnt mode nk kf)]⟩) (nk - (i + 1)) (can_rowsv [3, 1, 2] (k0_sel hk rfl) rfl (.cons rfl (RowEq.cl (v_cl c1_cl _ _ _)) (.cons rfl (RowEq.cl (rA1_cl _ _)) (.cons rfl (RowEq.cl (rXE_cl _)) .nil))) tmq) (by omega) ⟨i + 1, (m2 + 1), M2, by omega, hM2l, hM.trans hM2, rfl, rfl⟩
    · have hin : nk = i := by have : ¬ (i : Int) < (nk : Int) := of_decide_eq_false hc; omega
      subst hin
      have hMb := hB M hM
      repeat' (first | refine gg ?_ | exact trivial | with_reducible refine wA ?_ ?_ | refine Y2.mk ?_ ?_ | refine gh ?_ | exact qq | fail)
      refine pcond (b := !decide (op = 3 ∨ op = 4)) ?_ ?_ ?_
      · refine eqB ?_
        show (bif !(op == 3) then !(op == 4) else false) = _
        by_cases e1 : op = 3 <;> by_cases e2 : op = 4 <;> simp [e1, e2]
      · intro h
        have h := of_decide_eq_false (nv_t h)
        repeat' (first | refine gg ?_ | exact trivial | with_reducible refine wA ?_ ?_ | refine Y2.mk ?_ ?_ | refine gh ?_ | exact qq | fail)
        refine kretr (st' := ⟨[(8, slP (m + 1) 0)], [vRow c1 1 (m + 1) (lF 0 M)]⟩) (can_rowsv [0] (k0_sel hk rfl) rfl (.cons rfl (RowEq.cl (v_cl c1_cl _ _ _)) .nil) tmq) rfl ⟨trivial, trivial⟩ rfl ⟨(m + 1), M, hMl, (by rw [hR0 h]; exact hM), rfl, rfl⟩
      · intro h
        have h := of_decide_eq_true (nv_f h)
        have cm := means21_c nm l act nm0 (op == 4) hl ha hin
        have hmn := mnE_op (l := l) (act := act) (vn := vn) (vd := vd) (um := um) (uh := uh) (ud := ud) (nm0 := nm0) (cnt := cnt) (mode := mode) (nk := nk) (kf := kf) h
        rw [hR1 h]
        rw [← hmn] at cm
        obtain ⟨mn, hmn2⟩ : ∃ mn, mnE l act (.mk op vn vd um uh ud nm0 cnt mode nk kf) = mn := ⟨_, rfl⟩
        rw [hmn2] at cm
        have hAd : MemOk (mnE l act) [] ([(.mk op vn vd um uh ud nm0 cnt mode nk kf)] ++ flatK nk fun i => refsE (kf i)) (M ++ [mn]) := by rw [← hmn2]; exact hM.add
        repeat' (first | refine gg ?_ | exact trivial | with_reducible refine wA ?_ ?_ | refine Y2.mk ?_ ?_ | refine zz cm ?_ | refine gh ?_ | exact qq | fail)
        refine pcan (st' := ⟨[(3, slP (m + 1) 0), (10, vi mn), (11, vi ((0 : Nat) : Int))], [vRow c1 1 (m + 1) (lF 0 M)]⟩) (can_rowsv [0] (k0_sel hk rfl) rfl (.cons rfl (RowEq.cl (v_cl c1_cl _ _ _)) .nil) tmq) ?_
        refine ploop (fun q st => ∃ j : Nat, j ≤ (m + 1) ∧ (∀ j', j' < j → lF 0 M j' ≠ mn) ∧ q = (m + 1) - j ∧ st = ⟨[(3, slP (m + 1) 0), (10, vi mn), (11, vi j)], [vRow c1 1 (m + 1) (lF 0 M)]⟩) (m + 1) ⟨0, Nat.zero_le _, fun j hj => absurd hj (Nat.not_lt_zero j), rfl, rfl⟩ ?_
        rintro _ _ ⟨j, hj, hv, rfl, rfl⟩
        have hwj : IntKind.i64.wrap ((j : Int) + 1) = ((j + 1 : Nat) : Int) := w64 (by omega) (by omega)
        repeat' (first | refine gg ?_ | exact trivial | with_reducible refine wA ?_ ?_ | refine Y2.mk ?_ ?_ | refine gh ?_ | exact qq | fail)
        refine pcond rfl ?_ ?_ <;> intro hc
        · have hc : j < (m + 1) := by have : (j : Int) < (((m + 1) : Nat) : Int) := of_decide_eq_true hc; omega
          have hz : 0 + (j : Int).toNat = j := by omega
          repeat' (first | refine gg ?_ | exact trivial | with_reducible refine wA ?_ ?_ | refine Y2.mk ?_ ?_ | (exact (show 0 + (j : Int).toNat < (m + 1) by omega)) | (exact ⟨(show (0 : Int) ≤ (j : Int) by omega), (show (j : Int) < (((m + 1) : Nat) : Int) by omega)⟩) | refine gh ?_ | exact qq | fail)
          refine pcond (b := decide (lF 0 M j = mn)) ?_ ?_ ?_
          · refine eqB ?_
            rw [hz]; exact bqd _ _
          · intro h1
            have h1 := of_decide_eq_true h1
            have hin : mnE l act (.mk op vn vd um uh ud nm0 cnt mode nk kf) ∈ M := by rw [hmn2, ← h1, lF_get' (by omega)]; exact List.getElem_mem _
            repeat' (first | refine gg ?_ | exact trivial | with_reducible refine wA ?_ ?_ | refine Y2.mk ?_ ?_ | refine gh ?_ | exact qq | fail)
            refine xdone ?_
            refine kretr (st' := ⟨[(8, slP (m + 1) 0)], [vRow c1 1 (m + 1) (lF 0 M)]⟩) (can_rowsv [0] (k0_sel hk rfl) rfl (.cons rfl (RowEq.cl (v_cl c1_cl _ _ _)) .nil) tmq) rfl ⟨trivial, trivial⟩ rfl ⟨(m + 1), M, hMl, (hM.found hin), rfl, rfl⟩
          · intro h1
            have h1 := of_decide_eq_false h1
            repeat' (first | refine gg ?_ | exact trivial | with_reducible refine wA ?_ ?_ | refine Y2.mk ?_ ?_ | refine gh ?_ | exact qq | fail)
            refine xdone ?_
            rw [hwj]
            exact kloop_next (st' := ⟨[(3, slP (m + 1) 0), (10, vi mn), (11, vi ((j + 1 : Nat) : Int))], [vRow c1 1 (m + 1) (lF 0 M)]⟩) ((m + 1) - (j + 1)) (can_rowsv [0] (k0_sel hk rfl) rfl (.cons rfl (RowEq.cl (v_cl c1_cl _ _ _)) .nil) tmq) (by omega) ⟨j + 1, by omega, fun j' hj' => by
              by_cases e : j' = j
              · subst e; exact h1
              · exact hv j' (by omega), rfl, rfl⟩
        · repeat' (first | refine gg ?_ | exact trivial | with_reducible refine wA ?_ ?_ | refine Y2.mk ?_ ?_ | exact ⟨Nat.le_refl _, (by rw [hk]; exact Nat.le_of_ble_eq_true rfl), Nat.le_of_eq (Nat.zero_add _), (show (_ : Nat) * 8 ≤ 140737488355328 from by omega), (show (_ : Nat) ≤ 9223372036854775807 from by omega)⟩ | refine gh ?_ | exact qq | fail)
          refine xdone ?_
          refine kretr (st' := ⟨[(8, slP (m + 1 + 1) 0)], [vRow c1 1 (m + 1 + 1) (lF 0 (M ++ [mn]))]⟩) (can_rowsv [2] (k0_sel hk rfl) rfl (.cons rfl (app_l c1_cl hMl rfl rfl) .nil) tmq) rfl ⟨trivial, trivial⟩ rfl ⟨(m + 1 + 1), (M ++ [mn]), (by rw [List.length_append, hMl]; rfl), hAd, rfl, rfl⟩
theorem walk_c (nm : ByteArray) (l : List Df) (act : List Int) (hl : l.length ≤ 1000000) (ha : act.length ≤ 1000000) (hin : ∀ x, x ∈ act → 0 ≤ x ∧ x < l.length) : ∀ (n : Nat) (e : Ex), validS n e = true → e.w ≤ 900000 → WkC nm l act e
  | 0, _, h, _ => by cases h
  | n + 1, .nil, h, _ => absurd h (by rw [validS]; simp [Ex.nk, Ex.op, kidsN])
  | n + 1, .mk op vn vd um uh ud nm0 cnt mode nk kf, h, hw => by
    simp only [validS, Bool.and_eq_true, decide_eq_true_eq] at h
    obtain ⟨h1, _, h3⟩ := h
    have h1 : (nk : Int) = kidsN op := h1
    have h3 := allK_iff.1 h3
    have hk := kidsN_le op
    have ih : ∀ i, i < nk → WkC nm l act (kf i) := fun i hi => walk_c nm l act hl ha hin n (kf i) (h3 i hi) (Nat.le_trans (w_kid (e := .mk op vn vd um uh ud nm0 cnt mode nk kf) hi) hw)
    exact ⟨walk_nil nm l act hl ha hin op vn vd um uh ud nm0 cnt mode nk kf (by omega) ih (by omega), fun P k hP hw2 => walk_own nm l act hl ha hin op vn vd um uh ud nm0 cnt mode nk kf (by omega) ih P k hP hw2⟩
theorem walk0_c (nm : ByteArray) (l : List Df) (act : List Int) (hl : l.length ≤ 1000000) (ha : act.length ≤ 1000000) (hin : ∀ x, x ∈ act → 0 ≤ x ∧ x < l.length) (e : Ex) (hv : validS 32 e = true) (hw : e.w ≤ 900000) : PureC G.P 74 [vA nm l, sV act, vX e, nilX] (fun r => ∃ M, MemOk (mnE l act) [] (refsE e) M ∧ r = sV M) := rows_pure (walk_c nm l act hl ha hin 32 e hv hw).nil fun r rows ⟨k, M, h1, h2, h3, h4⟩ => by
  subst h3 h4
  refine ⟨_, [0], ⟨M, h2, rfl⟩, ?_⟩
  subst h1
  rcases M with _ | ⟨x, M⟩
  · exact argNil
  · exact argTI (arg_v (n := (x :: M).length) (l := 0) c1_cl rfl (List.Mem.head _))
end Go.Proofs.YtcefhgomkehokaaGreat
namespace Go.Proofs.YtcefhgomkehokaaGreat
theorem meanI_ge {l : List Df} {act : List Int} (hin : ∀ x, x ∈ act → 0 ≤ x ∧ x < l.length) {e : Ex} {j : Int} (h : meanI l act e = some j) : 0 ≤ j := by
  rcases meanI_mem h with ⟨h1, _⟩ | h1
  · exact h1
  · exact (hin j h1).1
theorem mem_mean {l : List Df} {act : List Int} (hin : ∀ x, x ∈ act → 0 ≤ x ∧ x < l.length) {R : List Ex} {M : List Int} (h : MemOk (mnE l act) [] R M) {x : Int} (hx : 0 ≤ x) : x ∈ M ↔ x ∈ R.filterMap (meanI l act) := by
  rw [h.mem, List.mem_map, List.mem_filterMap]
  constructor
  · rintro (h1 | ⟨r, hr, h1⟩)
    · cases h1
    · refine ⟨r, hr, ?_⟩
      unfold mnE at h1
      cases hm : meanI l act r with
      | none => rw [hm] at h1; simp at h1; omega
      | some j => rw [hm] at h1; simp at h1; rw [h1]
  · rintro ⟨r, hr, h1⟩
    exact .inr ⟨r, hr, by unfold mnE; rw [h1]; rfl⟩
theorem mem_none {l : List Df} {act : List Int} (hin : ∀ x, x ∈ act → 0 ≤ x ∧ x < l.length) {R : List Ex} {M : List Int} (h : MemOk (mnE l act) [] R M) : decide ((-1 : Int) ∈ M) = !R.all (fun e => (meanI l act e).isSome) := by
  rw [Bool.eq_iff_iff, decide_eq_true_eq, h.mem, List.mem_map]
  rw [Bool.not_eq_true', List.all_eq_false]
  constructor
  · rintro (h1 | ⟨r, hr, h1⟩)
    · cases h1
    · refine ⟨r, hr, ?_⟩
      unfold mnE at h1
      cases hm : meanI l act r with
      | none => simp
      | some j => rw [hm] at h1; have := meanI_ge hin hm; simp at h1; omega
  · rintro ⟨r, hr, h1⟩
    refine .inr ⟨r, hr, ?_⟩
    unfold mnE
    cases hm : meanI l act r with
    | none => rfl
    | some j => rw [hm] at h1; simp at h1
theorem filter_take {p : Int → Bool} {L : List Int} {q : Nat} (hq : q < L.length) : (L.take (q + 1)).filter p = (L.take q).filter p ++ if p (lF 0 L q) = true then [lF 0 L q] else [] := by
  rw [List.take_succ_eq_append_getElem hq, List.filter_append, lF_get' hq]
  congr 1
  rw [List.filter_cons, List.filter_nil]
theorem filter_take_len {p : Int → Bool} {L : List Int} {q : Nat} : ((L.take q).filter p).length ≤ L.length := by
  have h1 := List.length_filter_le p (L.take q)
  rw [List.length_take] at h1; omega
set_option maxHeartbeats 8000000 in
theorem needs21_c (nm : ByteArray) (l : List Df) (act : List Int) (i : Nat) (hi : i < l.length) (hl : l.length ≤ 1000000) (ha : act.length ≤ 1000000) (hin : ∀ x, x ∈ act → 0 ≤ x ∧ x < l.length) (hb : BodyOk (lF dD l i)) : PureC G.P 51 [vA nm l, sV act, vi i] (fun r => r = .tup 2 (nthP [sV (needL l act (refsE (lF dD l i).body)), vb ((refsE (lF dD l i).body).all (fun e => (meanI l act e).isSome))])) := by
  have cw := walk0_c nm l act hl ha hin (lF dD l i).body hb.1 hb.2
  have hrl := refs_len (lF dD l i).body
  have hbw := hb.2
  refine pure_of (G := G.toPg) (fn := Tryz.f51) Tryz.func51 rfl rfl rfl ?_; intro Γ hk
  repeat' (first | refine gg ?_ | exact trivial | with_reducible refine wA ?_ ?_ | refine Y2.mk ?_ ?_ | refine xs_start (id := 1) true [.take 0, .take 1, .take 2, .take 3, .take 4, .take 5, .take 6, .take 7, .one 8, .take 9] 0 rfl rfl (by kernel_rfl) ?_ | refine xs_start (id := 6) true [.take 0, .take 1, .take 2, .take 3, .take 4, .take 5, .take 6, .take 7, .one 8, .take 9, .take 10, .take 11, .take 12, .take 13, .take 14, .one 15, .take 16] 0 rfl rfl (by kernel_rfl) ?_ | exact ⟨(show (0 : Int) ≤ (i : Int) by omega), (show ((i : Nat) : Int) < ((l.length : Nat) : Int) by omega)⟩ | exact (show ((i : Nat) : Int).toNat < l.length by omega) | (refine xs_one (ch := []) rfl rfl rfl (pst_rowsc [] rfl rfl rfl rfl rfl rfl .nil (pure_rows cw) (by exact ⟨PEq.cl _ (clA ⟨trivial, trivial, trivial⟩), PEq.refl _, PEq.cl _ (fun i _ => clL_nth _ i (cX_cl _)), PEq.refl _, trivial⟩) ?_); rintro r rows ⟨⟨M, hM, rfl⟩, rfl⟩; refine ⟨_, _, rfl, trivial, rfl, ?_⟩) | refine gh ?_ | exact qq | fail)
  have hMl : M.length ≤ 1000000 := by have := hM.len; simp only [List.length_nil] at this; omega
  obtain ⟨p, hp⟩ : ∃ p : Int → Bool, p = fun x => comp (lF dD l x.toNat) && decide (x ∈ M) := ⟨_, rfl⟩
  refine pcan (can_virt (vRow c1 1 0 (lF 0 [])) rfl) ?_
  refine pcan (st' := ⟨[(1, sV act), (3, .ptr 0 0 0), (8, sV M), (9, slP 0 1), (10, vi ((0 : Nat) : Int))], [rA1 nm l, vRow c1 1 0 (lF 0 ((act.take 0).filter p))]⟩) (can_rowsv [0, 1] (k0_sel hk rfl) rfl (.cons rfl (RowEq.cl (rA1_cl _ _)) (.cons rfl (RowEq.cl (v_cl c1_cl _ _ _)) .nil)) tmq) ?_
  refine ploop (fun z st => ∃ q k : Nat, q ≤ act.length ∧ ((act.take q).filter p).length = k ∧ z = act.length - q ∧ st = ⟨[(1, sV act), (3, .ptr 0 0 0), (8, sV M), (9, slP k 1), (10, vi q)], [rA1 nm l, vRow c1 1 k (lF 0 ((act.take q).filter p))]⟩) act.length ⟨0, 0, by omega, rfl, by omega, rfl⟩ ?_
  rintro _ _ ⟨q, k, hq, hk2, rfl, rfl⟩
  have hw1 : IntKind.i64.wrap ((q : Int) + 1) = ((q + 1 : Nat) : Int) := w64 (by omega) (by omega)
  have hkl := filter_take_len (p := p) (L := act) (q := q)
  repeat' (first | refine gg ?_ | exact trivial | with_reducible refine wA ?_ ?_ | refine Y2.mk ?_ ?_ | refine gh ?_ | exact qq | fail)
  refine pcond rfl ?_ ?_ <;> intro hc
  · have hc : q < act.length := by have := of_decide_eq_true hc; omega
    have hx := hin (lF 0 act q) (by rw [lF_get' hc]; exact List.getElem_mem hc)
    have cr := isRoutine_c (lF dD l (lF 0 act q).toNat)
    have ch := has_c M (lF 0 act q) hMl
    have hf := filter_take (p := p) hc
    repeat' (first | refine gg ?_ | exact trivial | with_reducible refine wA ?_ ?_ | refine Y2.mk ?_ ?_ | refine xs_start (id := 1) true [.take 0, .take 1, .take 2, .take 3, .take 4, .take 5, .take 6, .take 7, .one 8, .take 9] 0 rfl rfl (by kernel_rfl) ?_ | refine xs_start (id := 6) true [.take 0, .take 1, .take 2, .take 3, .take 4, .take 5, .take 6, .take 7, .one 8, .take 9, .take 10, .take 11, .take 12, .take 13, .take 14, .one 15, .take 16] 0 rfl rfl (by kernel_rfl) ?_ | exact hx | (exact (show (lF 0 act q).toNat < l.length by omega)) | (intro hh; exact ⟨hh, by omega, by omega⟩) | (intro hh; exact ⟨by omega, by omega⟩) | refine zz cr ?_ | refine zz ch ?_ | refine gh ?_ | exact qq | fail)
    refine pcond (b := p (lF 0 act q)) ?_ ?_ ?_
    · refine eqB ?_
      rw [hp]
      show (bif comp (lF dD l (lF 0 act q).toNat) then decide (lF 0 act q ∈ M) else false) = (comp (lF dD l (lF 0 act q).toNat) && decide (lF 0 act q ∈ M))
      cases comp (lF dD l (lF 0 act q).toNat) <;> rfl
    · intro h1
      rw [if_pos h1] at hf
      rcases k with _ | k
      · repeat' (first | refine gg ?_ | exact trivial | with_reducible refine wA ?_ ?_ | refine Y2.mk ?_ ?_ | exact ⟨Nat.le_refl _, (by rw [hk]; exact Nat.le_of_ble_eq_true rfl), Nat.le_of_eq (Nat.zero_add _), (show (_ : Nat) * 8 ≤ 140737488355328 from by omega), (show (_ : Nat) ≤ 9223372036854775807 from by omega)⟩ | (exact (show (_ : Nat) < _ by omega)) | refine gh ?_ | exact qq | fail)
        refine xdone ?_
        rw [hw1]
        exact kloop_next (st' := ⟨[(1, sV act), (3, .ptr 0 0 0), (8, sV M), (9, slP (0 + 1) 1), (10, vi ((q + 1 : Nat) : Int))], [rA1 nm l, vRow c1 1 (0 + 1) (lF 0 ((act.take q).filter p ++ [lF 0 act q]))]⟩) (act.length - (q + 1)) (can_rowsv [0, 3] (k0_sel hk rfl) rfl (.cons rfl (RowEq.cl (rA1_cl _ _)) (.cons rfl (app_l0 c1_cl hk2 rfl) .nil)) tmq) (by omega) ⟨q + 1, 0 + 1, by omega, by rw [hf, List.length_append, hk2]; rfl, rfl, by rw [hf]⟩
      · repeat' (first | refine gg ?_ | exact trivial | with_reducible refine wA ?_ ?_ | refine Y2.mk ?_ ?_ | exact ⟨Nat.le_refl _, (by rw [hk]; exact Nat.le_of_ble_eq_true rfl), Nat.le_of_eq (Nat.zero_add _), (show (_ : Nat) * 8 ≤ 140737488355328 from by omega), (show (_ : Nat) ≤ 9223372036854775807 from by omega)⟩ | (exact (show (_ : Nat) < _ by omega)) | refine gh ?_ | exact qq | fail)
        refine xdone ?_
        rw [hw1]
        exact kloop_next (st' := ⟨[(1, sV act), (3, .ptr 0 0 0), (8, sV M), (9, slP (k + 1 + 1) 1), (10, vi ((q + 1 : Nat) : Int))], [rA1 nm l, vRow c1 1 (k + 1 + 1) (lF 0 ((act.take q).filter p ++ [lF 0 act q]))]⟩) (act.length - (q + 1)) (can_rowsv [0, 3] (k0_sel hk rfl) rfl (.cons rfl (RowEq.cl (rA1_cl _ _)) (.cons rfl (app_l c1_cl hk2 rfl rfl) .nil)) tmq) (by omega) ⟨q + 1, k + 1 + 1, by omega, by rw [hf, List.length_append, hk2]; rfl, rfl, by rw [hf]⟩
    · intro h1
      rw [if_neg (by rw [h1]; decide), List.append_nil] at hf
      repeat' (first | refine gg ?_ | exact trivial | with_reducible refine wA ?_ ?_ | refine Y2.mk ?_ ?_ | refine gh ?_ | exact qq | fail)
      refine xdone ?_
      rw [hw1]
      exact kloop_next (st' := ⟨[(1, sV act), (3, .ptr 0 0 0), (8, sV M), (9, slP k 1), (10, vi ((q + 1 : Nat) : Int))], [rA1 nm l, vRow c1 1 k (lF 0 ((act.take q).filter p))]⟩) (act.length - (q + 1)) (can_rowsv [0, 1] (k0_sel hk rfl) rfl (.cons rfl (RowEq.cl (rA1_cl _ _)) (.cons rfl (RowEq.cl (v_cl c1_cl _ _ _)) .nil)) (by exact ⟨PEq.refl _, PEq.refl _, PEq.refl _, peq_slP rfl, PEq.refl _, trivial⟩)) (by omega) ⟨q + 1, k, by omega, by rw [hf]; exact hk2, rfl, by rw [hf]⟩
  · have hql : q = act.length := by have := of_decide_eq_false hc; omega
    subst hql
    have ch := has_c M (-1) hMl
    have hnL : (act.take act.length).filter p = needL l act (refsE (lF dD l i).body) := by
      rw [List.take_length, hp]
      unfold needL
      refine List.filter_congr fun x hx => ?_
      rw [show decide (x ∈ M) = decide (x ∈ (refsE (lF dD l i).body).filterMap (meanI l act)) from by rw [decide_eq_decide]; exact mem_mean hin hM (hin x hx).1]
    have hno := mem_none hin hM
    have hal : (!decide ((-1 : Int) ∈ M)) = (refsE (lF dD l i).body).all (fun e => (meanI l act e).isSome) := by rw [hno, Bool.not_not]
    rcases k with _ | k
    · repeat' (first | refine gg ?_ | exact trivial | with_reducible refine wA ?_ ?_ | refine Y2.mk ?_ ?_ | refine zz ch ?_ | refine gh ?_ | exact qq | fail)
      refine xdone ?_
      refine kret [1] rfl ⟨trivial, trivial, trivial⟩ (qs := [.vsl 0 1 (tI (lF 0 ((act.take act.length).filter p))), vb (!decide ((-1 : Int) ∈ M))]) ⟨argTI (arg_v (n := 0) (l := 1) c1_cl rfl (List.Mem.head _)), argVal, trivial⟩ ?_
      rw [← hnL, ← hal, show sV ((act.take act.length).filter p) = .vsl 0 1 (tI (lF 0 ((act.take act.length).filter p))) from by show PV.vsl _ _ _ = _; rw [hk2]]; rfl
    · repeat' (first | refine gg ?_ | exact trivial | with_reducible refine wA ?_ ?_ | refine Y2.mk ?_ ?_ | refine zz ch ?_ | refine gh ?_ | exact qq | fail)
      refine xdone ?_
      refine kret [1] rfl ⟨trivial, trivial, trivial⟩ (qs := [.vsl (k + 1) 1 (tI (lF 0 ((act.take act.length).filter p))), vb (!decide ((-1 : Int) ∈ M))]) ⟨argTI (arg_v (n := k + 1) (l := 1) c1_cl rfl (List.Mem.head _)), argVal, trivial⟩ ?_
      rw [← hnL, ← hal, show sV ((act.take act.length).filter p) = .vsl (k + 1) 1 (tI (lF 0 ((act.take act.length).filter p))) from by show PV.vsl _ _ _ = _; rw [hk2]]; rfl
set_option maxHeartbeats 8000000 in
theorem Needs21_c (nm : ByteArray) (l : List Df) (day i : Int) (h : AgO nm l) (hl : l.length ≤ 1000000) : PureC G.P 28 [vA nm l, vi day, vi i] (fun r => r = .tup 2 (nthP [sV (NeedsS nm l day i).1, vi (NeedsS nm l day i).2])) := by
  have cv := valid18_c nm l h.nm h.bd
  have cd := inDays_c day
  have cA := Active21_c nm l day h hl
  have hck := chk_days (nm := nm) (l := l) (day := day)
  cases ha : agrS nm l with
  | false =>
    rw [ha] at hck cv
    have hck : chkE nm l day = 1 := hck
    have hN : NeedsS nm l day i = ([], 1) := by unfold NeedsS; rw [hck]; rfl
    rw [hN]
    refine pure_of (G := G.toPg) (fn := Tryz.f28) Tryz.func28 rfl rfl rfl ?_; intro Γ hk
    repeat' (first | refine gg ?_ | exact trivial | with_reducible refine wA ?_ ?_ | refine Y2.mk ?_ ?_ | refine zz cv ?_ | refine gh ?_ | exact qq | fail)
    refine xdone ?_
    exact kret [] rfl ⟨trivial, trivial, trivial⟩ (qs := [.vsl 0 1 (tI (lF 0 [])), vi 1]) ⟨argNil, argVal, trivial⟩ rfl
  | true =>
    rw [ha] at hck cv
    cases hd : dayS day with
    | false =>
      rw [hd] at hck cd
      have hck : chkE nm l day = 2 := hck
      have hN : NeedsS nm l day i = ([], 2) := by unfold NeedsS; rw [hck]; rfl
      rw [hN]
      refine pure_of (G := G.toPg) (fn := Tryz.f28) Tryz.func28 rfl rfl rfl ?_; intro Γ hk
      repeat' (first | refine gg ?_ | exact trivial | with_reducible refine wA ?_ ?_ | refine Y2.mk ?_ ?_ | refine zz cv ?_ | refine zz cd ?_ | refine gh ?_ | exact qq | fail)
      refine xdone ?_
      exact kret [] rfl ⟨trivial, trivial, trivial⟩ (qs := [.vsl 0 1 (tI (lF 0 [])), vi 2]) ⟨argNil, argVal, trivial⟩ rfl
    | true =>
      rw [hd] at hck cd
      have hck : chkE nm l day = 0 := hck
      have hAS : ActS nm l day = actL l day := by unfold ActS; rw [hck]; rfl
      rw [hAS] at cA
      have hAl := actL_len l day
      have hin := actL_in (l := l) (day := day)
      have hN : NeedsS nm l day i = if i ∈ actL l day ∧ comp (lF dD l i.toNat) = true then needS l (actL l day) i.toNat else ([], 16) := by unfold NeedsS; rw [hck]; rfl
      rw [hN]
      have ch := has_c (actL l day) i (by omega)
      refine pure_of (G := G.toPg) (fn := Tryz.f28) Tryz.func28 rfl rfl rfl ?_; intro Γ hk
      by_cases hi : i ∈ actL l day
      · have hib := hin i hi
        rw [decide_eq_true hi] at ch
        obtain ⟨j, rfl⟩ := Int.eq_ofNat_of_zero_le hib.1
        have cr := isRoutine_c (lF dD l (j : Int).toNat)
        repeat' (first | refine gg ?_ | exact trivial | with_reducible refine wA ?_ ?_ | refine Y2.mk ?_ ?_ | (refine pop_callc [] rfl rfl rfl rfl rfl rfl (fun _ h => by cases h) (cA) (args_cl _ rfl) ?_; rintro _ rfl) | refine zz cv ?_ | refine zz cd ?_ | refine zz ch ?_ | refine zz cr ?_ | refine gh ?_ | exact qq | fail)
        refine pcond (b := !comp (lF dD l j)) ?_ ?_ ?_
        · exact eqB rfl
        · intro h1
          have h1 := nv_t h1
          rw [if_neg (by rw [Int.toNat_natCast, h1]; simp)]
          repeat' (first | refine gg ?_ | exact trivial | with_reducible refine wA ?_ ?_ | refine Y2.mk ?_ ?_ | refine gh ?_ | exact qq | fail)
          refine xdone ?_
          exact kret [] rfl ⟨trivial, trivial, trivial⟩ (qs := [.vsl 0 1 (tI (lF 0 [])), vi 16]) ⟨argNil, argVal, trivial⟩ rfl
        · intro h1
          have h1 := nv_f h1
          rw [if_pos (by rw [Int.toNat_natCast]; exact ⟨hi, h1⟩), Int.toNat_natCast]
          have cn := needs21_c nm l (actL l day) j (by omega) hl (by omega) hin (h.body ha (by omega) h1)
          unfold needS
          cases hall : (refsE (lF dD l j).body).all (fun e => (meanI l (actL l day) e).isSome) with
          | true =>
            rw [hall] at cn
            rw [if_pos rfl]
            repeat' (first | refine gg ?_ | exact trivial | with_reducible refine wA ?_ ?_ | refine Y2.mk ?_ ?_ | (refine pop_callc [] rfl rfl rfl rfl rfl rfl (fun _ h => by cases h) (cn) (args_cl _ rfl) ?_; rintro _ rfl) | refine gh ?_ | exact qq | fail)
            refine xdone ?_
            exact kretv rfl ⟨trivial, trivial, trivial⟩ rfl rfl
          | false =>
            rw [hall] at cn
            rw [if_neg (by decide)]
            repeat' (first | refine gg ?_ | exact trivial | with_reducible refine wA ?_ ?_ | refine Y2.mk ?_ ?_ | (refine pop_callc [] rfl rfl rfl rfl rfl rfl (fun _ h => by cases h) (cn) (args_cl _ rfl) ?_; rintro _ rfl) | refine gh ?_ | exact qq | fail)
            refine xdone ?_
            exact kret [] rfl ⟨trivial, trivial, trivial⟩ (qs := [.vsl 0 1 (tI (lF 0 [])), vi 7]) ⟨argNil, argVal, trivial⟩ rfl
      · rw [decide_eq_false hi] at ch
        rw [if_neg (fun hh => hi hh.1)]
        repeat' (first | refine gg ?_ | exact trivial | with_reducible refine wA ?_ ?_ | refine Y2.mk ?_ ?_ | (refine pop_callc [] rfl rfl rfl rfl rfl rfl (fun _ h => by cases h) (cA) (args_cl _ rfl) ?_; rintro _ rfl) | (intro hh; exact absurd hh (by decide)) | (refine pop_gfalse rfl rfl rfl rfl ?_) | refine zz cv ?_ | refine zz cd ?_ | refine zz ch ?_ | refine gh ?_ | exact qq | fail)
        refine xdone ?_
        exact kret [] rfl ⟨trivial, trivial, trivial⟩ (qs := [.vsl 0 1 (tI (lF 0 [])), vi 16]) ⟨argNil, argVal, trivial⟩ rfl
end Go.Proofs.YtcefhgomkehokaaGreat
namespace Go.Proofs.YtcefhgomkehokaaGreat
set_option maxHeartbeats 8000000 in
theorem routines21_c (nm : ByteArray) (l : List Df) (act : List Int) (hl : l.length ≤ 1000000) (ha : act.length ≤ 1000000) (hin : ∀ x, x ∈ act → 0 ≤ x ∧ x < l.length) : PureC G.P 52 [vA nm l, sV act] (fun r => r = sV (nodL l act)) := by
  obtain ⟨p, hp⟩ : ∃ p : Int → Bool, p = fun x => comp (lF dD l x.toNat) := ⟨_, rfl⟩
  have hnL : nodL l act = act.filter p := by rw [hp]; rfl
  rw [hnL]
  refine pure_of (G := G.toPg) (fn := Tryz.f52) Tryz.func52 rfl rfl rfl ?_; intro Γ hk
  repeat' (first | refine gg ?_ | exact trivial | with_reducible refine wA ?_ ?_ | refine Y2.mk ?_ ?_ | refine gh ?_ | exact qq | fail)
  refine pcan (can_virt (vRow c1 1 0 (lF 0 [])) rfl) ?_
  refine pcan (st' := ⟨[(1, sV act), (2, .ptr 0 0 0), (5, slP 0 1), (6, vi ((0 : Nat) : Int))], [rA1 nm l, vRow c1 1 0 (lF 0 ((act.take 0).filter p))]⟩) (can_rowsv [0, 1] (k0_sel hk rfl) rfl (.cons rfl (RowEq.cl (rA1_cl _ _)) (.cons rfl (RowEq.cl (v_cl c1_cl _ _ _)) .nil)) tmq) ?_
  refine ploop (fun z st => ∃ q k : Nat, q ≤ act.length ∧ ((act.take q).filter p).length = k ∧ z = act.length - q ∧ st = ⟨[(1, sV act), (2, .ptr 0 0 0), (5, slP k 1), (6, vi q)], [rA1 nm l, vRow c1 1 k (lF 0 ((act.take q).filter p))]⟩) act.length ⟨0, 0, by omega, rfl, by omega, rfl⟩ ?_
  rintro _ _ ⟨q, k, hq, hk2, rfl, rfl⟩
  have hw1 : IntKind.i64.wrap ((q : Int) + 1) = ((q + 1 : Nat) : Int) := w64 (by omega) (by omega)
  have hkl := filter_take_len (p := p) (L := act) (q := q)
  repeat' (first | refine gg ?_ | exact trivial | with_reducible refine wA ?_ ?_ | refine Y2.mk ?_ ?_ | refine gh ?_ | exact qq | fail)
  refine pcond rfl ?_ ?_ <;> intro hc
  · have hc : q < act.length := by have := of_decide_eq_true hc; omega
    have hx := hin (lF 0 act q) (by rw [lF_get' hc]; exact List.getElem_mem hc)
    have cr := isRoutine_c (lF dD l (lF 0 act q).toNat)
    have hf := filter_take (p := p) hc
    repeat' (first | refine gg ?_ | exact trivial | with_reducible refine wA ?_ ?_ | refine Y2.mk ?_ ?_ | refine xs_start (id := 5) true [.take 0, .take 1, .take 2, .take 3, .take 4, .take 5, .take 6, .take 7, .one 8] 0 rfl rfl (by kernel_rfl) ?_ | exact hx | (exact (show (lF 0 act q).toNat < l.length by omega)) | refine zz cr ?_ | refine gh ?_ | exact qq | fail)
    refine pcond (b := p (lF 0 act q)) ?_ ?_ ?_
    · refine eqB ?_
      rw [hp]
    · intro h1
      rw [if_pos h1] at hf
      rcases k with _ | k
      · repeat' (first | refine gg ?_ | exact trivial | with_reducible refine wA ?_ ?_ | refine Y2.mk ?_ ?_ | exact ⟨Nat.le_refl _, (by rw [hk]; exact Nat.le_of_ble_eq_true rfl), Nat.le_of_eq (Nat.zero_add _), (show (_ : Nat) * 8 ≤ 140737488355328 from by omega), (show (_ : Nat) ≤ 9223372036854775807 from by omega)⟩ | (exact (show (_ : Nat) < _ by omega)) | refine gh ?_ | exact qq | fail)
        refine xdone ?_
        rw [hw1]
        exact kloop_next (st' := ⟨[(1, sV act), (2, .ptr 0 0 0), (5, slP (0 + 1) 1), (6, vi ((q + 1 : Nat) : Int))], [rA1 nm l, vRow c1 1 (0 + 1) (lF 0 ((act.take q).filter p ++ [lF 0 act q]))]⟩) (act.length - (q + 1)) (can_rowsv [0, 3] (k0_sel hk rfl) rfl (.cons rfl (RowEq.cl (rA1_cl _ _)) (.cons rfl (app_l0 c1_cl hk2 rfl) .nil)) tmq) (by omega) ⟨q + 1, 0 + 1, by omega, by rw [hf, List.length_append, hk2]; rfl, rfl, by rw [hf]⟩
      · repeat' (first | refine gg ?_ | exact trivial | with_reducible refine wA ?_ ?_ | refine Y2.mk ?_ ?_ | exact ⟨Nat.le_refl _, (by rw [hk]; exact Nat.le_of_ble_eq_true rfl), Nat.le_of_eq (Nat.zero_add _), (show (_ : Nat) * 8 ≤ 140737488355328 from by omega), (show (_ : Nat) ≤ 9223372036854775807 from by omega)⟩ | (exact (show (_ : Nat) < _ by omega)) | refine gh ?_ | exact qq | fail)
        refine xdone ?_
        rw [hw1]
        exact kloop_next (st' := ⟨[(1, sV act), (2, .ptr 0 0 0), (5, slP (k + 1 + 1) 1), (6, vi ((q + 1 : Nat) : Int))], [rA1 nm l, vRow c1 1 (k + 1 + 1) (lF 0 ((act.take q).filter p ++ [lF 0 act q]))]⟩) (act.length - (q + 1)) (can_rowsv [0, 3] (k0_sel hk rfl) rfl (.cons rfl (RowEq.cl (rA1_cl _ _)) (.cons rfl (app_l c1_cl hk2 rfl rfl) .nil)) tmq) (by omega) ⟨q + 1, k + 1 + 1, by omega, by rw [hf, List.length_append, hk2]; rfl, rfl, by rw [hf]⟩
    · intro h1
      rw [if_neg (by rw [h1]; decide), List.append_nil] at hf
      repeat' (first | refine gg ?_ | exact trivial | with_reducible refine wA ?_ ?_ | refine Y2.mk ?_ ?_ | refine gh ?_ | exact qq | fail)
      refine xdone ?_
      rw [hw1]
      exact kloop_next (st' := ⟨[(1, sV act), (2, .ptr 0 0 0), (5, slP k 1), (6, vi ((q + 1 : Nat) : Int))], [rA1 nm l, vRow c1 1 k (lF 0 ((act.take q).filter p))]⟩) (act.length - (q + 1)) (can_rowsv [0, 1] (k0_sel hk rfl) rfl (.cons rfl (RowEq.cl (rA1_cl _ _)) (.cons rfl (RowEq.cl (v_cl c1_cl _ _ _)) .nil)) (by exact ⟨PEq.refl _, PEq.refl _, peq_slP rfl, PEq.refl _, trivial⟩)) (by omega) ⟨q + 1, k, by omega, by rw [hf]; exact hk2, rfl, by rw [hf]⟩
  · have hql : q = act.length := by have := of_decide_eq_false hc; omega
    subst hql
    have hX : (act.take act.length).filter p = act.filter p := by rw [List.take_length]
    rw [← hX]
    rcases k with _ | k
    · repeat' (first | refine gg ?_ | exact trivial | with_reducible refine wA ?_ ?_ | refine Y2.mk ?_ ?_ | refine gh ?_ | exact qq | fail)
      refine xdone ?_
      refine kret [1] rfl ⟨trivial, trivial⟩ (qs := [.vsl 0 1 (tI (lF 0 ((act.take act.length).filter p)))]) ⟨argTI (arg_v (n := 0) (l := 1) c1_cl rfl (List.Mem.head _)), trivial⟩ ?_
      rw [show sV ((act.take act.length).filter p) = .vsl 0 1 (tI (lF 0 ((act.take act.length).filter p))) from by show PV.vsl _ _ _ = _; rw [hk2]]; rfl
    · repeat' (first | refine gg ?_ | exact trivial | with_reducible refine wA ?_ ?_ | refine Y2.mk ?_ ?_ | refine gh ?_ | exact qq | fail)
      refine xdone ?_
      refine kret [1] rfl ⟨trivial, trivial⟩ (qs := [.vsl (k + 1) 1 (tI (lF 0 ((act.take act.length).filter p)))]) ⟨argTI (arg_v (n := k + 1) (l := 1) c1_cl rfl (List.Mem.head _)), trivial⟩ ?_
      rw [show sV ((act.take act.length).filter p) = .vsl (k + 1) 1 (tI (lF 0 ((act.take act.length).filter p))) from by show PV.vsl _ _ _ = _; rw [hk2]]; rfl
def mentR (l : List Df) (act : List Int) (s : ByteArray) (r : Ex) : Bool := (r.nm.toList == s.toList) && decide (0 ≤ mnE l act r)
theorem any_flat {α : Type} {g : Nat → List α} {p : α → Bool} : ∀ {n : Nat}, (flatK n g).any p = (List.range n).any fun i => (g i).any p
  | 0 => rfl
  | n + 1 => by rw [flatK, List.any_append, any_flat, List.range_succ, List.any_append]; simp
set_option maxHeartbeats 8000000 in
theorem ment_one (nm : ByteArray) (l : List Df) (act : List Int) (hl : l.length ≤ 1000000) (ha : act.length ≤ 1000000) (hin : ∀ x, x ∈ act → 0 ≤ x ∧ x < l.length) (s : ByteArray) (op vn vd um uh ud : Int) (nm0 : ByteArray) (cnt mode : Int) (nk : Nat) (kf : Nat → Ex) (hnk : nk ≤ 1000000) (ih : ∀ i, i < nk → PureC G.P 59 [vA nm l, sV act, vX (kf i), vs s] (fun r => r = vb ((refsE (kf i)).any (mentR l act s)))) :
    PureC G.P 59 [vA nm l, sV act, vX (.mk op vn vd um uh ud nm0 cnt mode nk kf), vs s] (fun r => r = vb ((refsE (.mk op vn vd um uh ud nm0 cnt mode nk kf)).any (mentR l act s))) := by
  refine pure_of (G := G.toPg) (fn := Tryz.f59) Tryz.func59 rfl rfl rfl ?_; intro Γ hk
  repeat' (first | refine gg ?_ | exact trivial | with_reducible refine wA ?_ ?_ | refine Y2.mk ?_ ?_ | refine gh ?_ | exact qq | fail)
  refine pcan (st' := ⟨[(1, sV act), (3, vs s), (4, .ptr 0 0 0), (6, .ptr 1 0 0), (9, vi ((0 : Nat) : Int))], [rA1 nm l, rXE (.mk op vn vd um uh ud nm0 cnt mode nk kf)]⟩) (can_rowsv [0, 1] (k0_sel hk rfl) rfl (.cons rfl (RowEq.cl (rA1_cl _ _)) (.cons rfl (RowEq.cl (rXE_cl _)) .nil)) tmq) ?_
  refine ploop (fun z st => ∃ i : Nat, i ≤ nk ∧ (∀ j, j < i → (refsE (kf j)).any (mentR l act s) = false) ∧ z = nk - i ∧ st = ⟨[(1, sV act), (3, vs s), (4, .ptr 0 0 0), (6, .ptr 1 0 0), (9, vi i)], [rA1 nm l, rXE (.mk op vn vd um uh ud nm0 cnt mode nk kf)]⟩) nk ⟨0, by omega, fun j hj => absurd hj (Nat.not_lt_zero j), by omega, rfl⟩ ?_
  rintro _ _ ⟨i, hi, hv, rfl, rfl⟩
  have hw1 : IntKind.i64.wrap ((i : Int) + 1) = ((i + 1 : Nat) : Int) := w64 (by omega) (by omega)
  repeat' (first | refine gg ?_ | exact trivial | with_reducible refine wA ?_ ?_ | refine Y2.mk ?_ ?_ | refine gh ?_ | exact qq | fail)
  refine pcond rfl ?_ ?_ <;> intro hc
  · have hc : i < nk := by have : (i : Int) < (nk : Int) := of_decide_eq_true hc; omega
    have hcI : (0 : Int) ≤ (i : Int) ∧ (i : Int) < (nk : Int) := ⟨by omega, by omega⟩
    have ci := ih i hc
    repeat' (first | refine gg ?_ | exact trivial | with_reducible refine wA ?_ ?_ | refine Y2.mk ?_ ?_ | refine xs_start (id := 4) true [.take 0, .take 1, .take 2, .take 3, .take 4, .take 5, .take 6, .take 7, .one 8] 0 rfl rfl (by kernel_rfl) ?_ | exact hc | exact hcI | refine zz ci ?_ | refine gh ?_ | exact qq | fail)
    refine pcond (b := (refsE (kf i)).any (mentR l act s)) rfl ?_ ?_
    · intro h1
      repeat' (first | refine gg ?_ | exact trivial | with_reducible refine wA ?_ ?_ | refine Y2.mk ?_ ?_ | refine gh ?_ | exact qq | fail)
      refine kretv rfl ⟨trivial, trivial⟩ rfl (eqB ?_)
      symm
      rw [refsE, List.any_append, any_flat, Bool.or_eq_true]
      exact .inr (List.any_eq_true.2 ⟨i, List.mem_range.2 hc, h1⟩)
    · intro h1
      repeat' (first | refine gg ?_ | exact trivial | with_reducible refine wA ?_ ?_ | refine Y2.mk ?_ ?_ | refine gh ?_ | exact qq | fail)
      rw [hw1]
      exact kloop_next (st' := ⟨[(1, sV act), (3, vs s), (4, .ptr 0 0 0), (6, .ptr 1 0 0), (9, vi ((i + 1 : Nat) : Int))], [rA1 nm l, rXE (.mk op vn vd um uh ud nm0 cnt mode nk kf)]⟩) (nk - (i + 1)) (can_rowsv [0, 1] (k0_sel hk rfl) rfl (.cons rfl (RowEq.cl (rA1_cl _ _)) (.cons rfl (RowEq.cl (rXE_cl _)) .nil)) tmq) (by omega) ⟨i + 1, by omega, fun j hj => by
        by_cases e : j = i
        · subst e; exact h1
        · exact hv j (by omega), rfl, rfl⟩
  · have hin2 : nk = i := by have : ¬ (i : Int) < (nk : Int) := of_decide_eq_false hc; omega
    subst hin2
    have cm := means21_c nm l act s (op == 4) hl ha hin
    repeat' (first | refine gg ?_ | exact trivial | with_reducible refine wA ?_ ?_ | refine Y2.mk ?_ ?_ | (refine z4 cm ?_ (hp := by exact fun h => ⟨h, h, h, h, trivial⟩)) | refine gh ?_ | exact qq | fail)
    refine xdone ?_
    refine kretv rfl ⟨trivial, trivial⟩ rfl (eqB ?_)
    rw [refsE, List.any_append, any_flat]
    have h0 : ((List.range nk).any fun i => (refsE (kf i)).any (mentR l act s)) = false := by
      rw [List.any_eq_false]
      intro j hj
      rw [hv j (List.mem_range.1 hj)]; decide
    rw [h0, Bool.or_false]
    show (bif bif bif op == 3 then true else op == 4 then nm0.toList == s.toList else false then decide (0 ≤ mnI l act s (op == 4)) else false) = _
    by_cases h34 : op = 3 ∨ op = 4
    · rw [if_pos h34, List.any_cons, List.any_nil, Bool.or_false]
      unfold mentR
      rw [mnE_op h34, show (bif op == 3 then true else op == 4) = true from by rcases h34 with rfl | rfl <;> rfl]
      show (bif nm0.toList == s.toList then _ else false) = (nm0.toList == s.toList && _)
      by_cases e : nm0.toList = s.toList
      · rw [ba_eq e]
        simp
      · rw [show (nm0.toList == s.toList) = false from by simpa using e]; rfl
    · rw [if_neg h34, show (bif op == 3 then true else op == 4) = false from by
        have h3 : (op == 3) = false := by simp; omega
        have h4 : (op == 4) = false := by simp; omega
        rw [h3, h4]; rfl]
      rfl
theorem mentions21_c (nm : ByteArray) (l : List Df) (act : List Int) (hl : l.length ≤ 1000000) (ha : act.length ≤ 1000000) (hin : ∀ x, x ∈ act → 0 ≤ x ∧ x < l.length) (s : ByteArray) : ∀ (n : Nat) (e : Ex), validS n e = true → PureC G.P 59 [vA nm l, sV act, vX e, vs s] (fun r => r = vb ((refsE e).any (mentR l act s)))
  | 0, _, h => by cases h
  | n + 1, .nil, h => absurd h (by rw [validS]; simp [Ex.nk, Ex.op, kidsN])
  | n + 1, .mk op vn vd um uh ud nm0 cnt mode nk kf, h => by
    simp only [validS, Bool.and_eq_true, decide_eq_true_eq] at h
    obtain ⟨h1, _, h3⟩ := h
    have h1 : (nk : Int) = kidsN op := h1
    have h3 := allK_iff.1 h3
    have hk := kidsN_le op
    exact ment_one nm l act hl ha hin s op vn vd um uh ud nm0 cnt mode nk kf (by omega) fun i hi => mentions21_c nm l act hl ha hin s n (kf i) (h3 i hi)
end Go.Proofs.YtcefhgomkehokaaGreat
