/- CheckVersions: the given statement, for every input: the law returns true and leaves its arguments alone. No conditions. -/
import Derived.Test.YtnlcenlamkfmnaaX20
import Derived.Test.YtnlcenlamkfmnaaX22
import Derived.Test.YtnlcenlamkfmnaaY1
import Derived.ProofKit
import Derived.OpenShut
import Derived.ShutString
import Derived.ChangeOld
import Derived.Lib.SmallJoins
set_option linter.unusedSimpArgs false
set_option linter.unusedVariables false
set_option maxRecDepth 100000
namespace Go.Proofs.Ytnlcenlamkfmnaa
theorem findS_app {N X : List Df} {s : ByteArray} (h : (findS N s).2 = 0) : findS (N ++ X) s = findS N s := by
  induction N with
  | nil => exact absurd (show (7 : Int) = 0 from h) (by decide)
  | cons d l ih =>
    rw [List.cons_append]
    unfold findS at h ⊢
    split
    · rfl
    · rename_i hn
      rw [if_neg hn] at h
      exact ih h
theorem findS_no {N : List Df} {s : ByteArray} (h : ∀ d, d ∈ N → d.nm.toList ≠ s.toList) : findS N s = (t0, 7) := by
  induction N with
  | nil => rfl
  | cons d l ih =>
    unfold findS
    rw [if_neg (h d (List.mem_cons_self ..))]
    exact ih fun d' hd' => h d' (List.mem_cons_of_mem _ hd')
theorem findS_skip {N X : List Df} {s : ByteArray} (h : ∀ d, d ∈ N → d.nm.toList ≠ s.toList) : findS (N ++ X) s = findS X s := by
  induction N with
  | nil => rfl
  | cons d l ih =>
    rw [List.cons_append, findS, if_neg (h d (List.mem_cons_self ..))]
    exact ih fun d' hd' => h d' (List.mem_cons_of_mem _ hd')
theorem Env.app {N S P : List Df} (h : Env N S P) (X Y Z : List Df) : Env (N ++ X) (S ++ Y) (P ++ Z) := by
  constructor
  all_goals first
    | (rw [findS_app (by rw [h.h])]; exact h.h)
    | (rw [findS_app (by rw [h.g])]; exact h.g)
    | (rw [findS_app (by rw [h.f])]; exact h.f)
    | (rw [findS_app (by rw [h.r1])]; exact h.r1)
    | (rw [findS_app (by rw [h.r2])]; exact h.r2)
    | (rw [findS_app (by rw [h.r3])]; exact h.r3)
    | (rw [findS_app (by rw [h.r4])]; exact h.r4)
    | (rw [findS_app (by rw [h.a])]; exact h.a)
    | (rw [findS_app (by rw [h.w])]; exact h.w)
    | (rw [findS_app (by rw [h.s])]; exact h.s)
    | (rw [findS_app (by rw [h.gross])]; exact h.gross)
    | (rw [findS_app (by rw [h.time])]; exact h.time)
theorem errD_any {l pre : List Df} {d : Df} (h : errD l pre d = 0) : pre.any (fun b => collS b d) = false := by
  cases hb : pre.any (fun b => collS b d)
  · rfl
  · unfold errD at h
    rw [if_pos hb] at h
    exact absurd h (by decide)
/-- the definitions of a made agreement have no problem, whatever comes behind -/
theorem errX {hh : Nat} {l X : List Df} (hA : AGood hh l) (h32 : hh ≤ 32) (hp : ∀ x, x ∈ X → isNm x = true → ∀ d, d ∈ l → d.kind = 5 → x.nm.toList ≠ d.nm.toList) {n : Nat} (hn : n < l.length) : errD (l ++ X) ((l ++ X).take n) (lF dD (l ++ X) n) = 0 := by
  have h0 := errD_any (err_good hA.all hA.key hA.env h32 (AGood.past hA.all) hn)
  rw [lF_lt hn, List.take_append_of_le_length (by omega)]
  have hm : lF dD l n ∈ l := by rw [lF_take hn]; exact List.getElem_mem hn
  have hd := hA.all _ hm
  unfold errD
  rw [h0, if_neg (by simp)]
  have hE : Env ((l ++ X).filter isNm) ((l ++ X).filter isSc) ((l ++ X).filter isPa) := by
    rw [List.filter_append, List.filter_append, List.filter_append]; exact hA.env.app _ _ _
  by_cases h5 : (lF dD l n).kind = 5
  · rw [if_pos h5]
    unfold pastS
    have : ((l ++ X).filter isNm).find? (fun x => x.nm.toList == (lF dD l n).nm.toList) = none := by
      rw [List.find?_eq_none]
      intro x hx
      rw [List.mem_filter, List.mem_append] at hx
      rcases hx.1 with h | h
      · simpa using AGood.past hA.all x h hx.2 _ hm h5
      · simpa using hp x h hx.2 _ hm h5
    rw [this]
  · rw [if_neg h5]
    split
    · rename_i h34
      exact body_good hE (hd.wt h34) h32 rfl
    · rfl
theorem probX {hh : Nat} {l X : List Df} (hA : AGood hh l) (h32 : hh ≤ 32) (hp : ∀ x, x ∈ X → isNm x = true → ∀ d, d ∈ l → d.kind = 5 → x.nm.toList ≠ d.nm.toList) : probS (l ++ X) l.length = [] := probS_nil _ fun i hi => errX hA h32 hp hi
theorem agrX {hh : Nat} {l X : List Df} {nm : ByteArray} (hA : AGood hh l) (hnm : nameS nm = true) (hl : X.length ≤ 2) (hX : ∀ d, d ∈ X → nameS d.nm = true ∧ defS d = true) : agrS nm (l ++ X) = true := by
  unfold agrS
  have := hA.len
  rw [hnm, decide_eq_true (by rw [List.length_append]; omega : (l ++ X).length ≤ 128), List.all_eq_true.2 fun d hd => ?_]
  · rfl
  · rcases List.mem_append.1 hd with h | h
    · rw [tab_nm _ (hA.all d h).tab, (hA.all d h).df]; rfl
    · rw [(hX d h).1, (hX d h).2]; rfl
theorem coll_nm {a b : Df} (h : a.nm.toList ≠ b.nm.toList) : collS a b = false := by
  unfold collS
  have : (a.nm.toList == b.nm.toList) = false := by rw [Bool.eq_false_iff]; intro hc; exact h (by simpa using hc)
  rw [this]; rfl
theorem any_no {l : List Df} {d : Df} (h : ∀ b, b ∈ l → b.nm.toList ≠ d.nm.toList) : l.any (fun b => collS b d) = false := by
  rw [Bool.eq_false_iff]
  intro hc
  obtain ⟨b, hb, h2⟩ := List.any_eq_true.1 hc
  rw [coll_nm (h b hb)] at h2
  cases h2
abbrev n_user : ByteArray := ⟨#[117, 115, 101, 114]⟩
abbrev n_lost : ByteArray := ⟨#[108, 111, 115, 116]⟩
def lostL : List ByteArray := [n_lost, n_w, n_gross]
abbrev uD (nm : ByteArray) : Df := dR n_user t0 20454 (.mk 3 0 0 0 0 0 nm 0 0 0 kn)
abbrev lD : Df := dI 1 n_lost t0
theorem user_new : ∀ x, x ∈ tabL → x.1.toList ≠ n_user.toList ∧ x.1.toList ≠ n_lost.toList ∧ (x.2.1 = 1 ∨ x.2.1 = 3 ∨ x.2.1 = 4 → x.1.toList ≠ n_w.toList ∧ x.1.toList ≠ n_gross.toList) := by decide +kernel
theorem user_df : ∀ nm, nm ∈ lostL → defS (uD nm) = true := by
  intro nm h
  simp only [lostL, List.mem_cons, List.not_mem_nil, or_false] at h
  rcases h with rfl | rfl | rfl <;> decide +kernel
theorem user_bd : ∀ nm, nm ∈ lostL → BdD (uD nm) := by
  intro nm h
  have hs : nm.size ≤ 9223372036854775807 := by
    simp only [lostL, List.mem_cons, List.not_mem_nil, or_false] at h
    rcases h with rfl | rfl | rfl <;> decide
  exact ⟨by show n_user.size ≤ 9223372036854775807; decide, fun i hi => absurd hi (Nat.not_lt_zero i), Nat.zero_le _, .mk ⟨by decide, by decide, hs⟩ (fun i hi => absurd hi (Nat.not_lt_zero i)), by show (-9223372036854775808 : Int) ≤ 0; decide, by show (0 : Int) ≤ 9223372036854775807; decide⟩
theorem lost_bd : BdD lD := ⟨by decide, fun i hi => absurd hi (Nat.not_lt_zero i), Nat.zero_le _, .nil, by show (-9223372036854775808 : Int) ≤ 0; decide, by show (0 : Int) ≤ 9223372036854775807; decide⟩
theorem body_name {N S P : List Df} {nm : ByteArray} : typeS N S P 32 (.mk 3 0 0 0 0 0 nm 0 0 0 kn) = findS N nm := by
  unfold typeS
  rw [if_neg (by rintro ⟨h, _⟩; exact absurd h (Nat.not_lt_zero _)), if_neg (by rintro ⟨h, _⟩; exact absurd h (Nat.not_lt_zero _)), if_neg (by rintro ⟨h, _⟩; exact absurd h (Nat.not_lt_zero _))]
  unfold opS
  rw [if_neg (by show ¬ (3 : Int) = 1; decide), if_neg (by show ¬ (3 : Int) = 2; decide), if_pos (by show (3 : Int) = 3; rfl)]
  rfl
section
variable {hh : Nat} {l : List Df} (hA : AGood hh l)
include hA
theorem nm_user {b : Df} (hb : b ∈ l) : b.nm.toList ≠ n_user.toList := (user_new _ (hA.all b hb).tab).1
theorem nm_lost {b : Df} (hb : b ∈ l) : b.nm.toList ≠ n_lost.toList := (user_new _ (hA.all b hb).tab).2.1
theorem nm_lostL {nm : ByteArray} (hn : nm ∈ lostL) : ∀ b, b ∈ l.filter isNm → b.nm.toList ≠ nm.toList := by
  intro b hb
  rw [List.mem_filter] at hb
  have h := user_new _ (hA.all b hb.1).tab
  have hk : b.kind = 1 ∨ b.kind = 3 ∨ b.kind = 4 := by simpa [isNm] using hb.2
  simp only [lostL, List.mem_cons, List.not_mem_nil, or_false] at hn
  rcases hn with rfl | rfl | rfl
  · exact h.2.1
  · exact (h.2.2 hk).1
  · exact (h.2.2 hk).2
theorem pastX {nm : ByteArray} : ∀ x, x ∈ [uD nm, lD] → isNm x = true → ∀ d, d ∈ l → d.kind = 5 → x.nm.toList ≠ d.nm.toList := by
  intro x hx _ d hd _
  simp only [List.mem_cons, List.not_mem_nil, or_false] at hx
  rcases hx with rfl | rfl
  · exact fun h => nm_user hA hd h.symm
  · exact fun h => nm_lost hA hd h.symm
theorem err_user {X : List Df} {nm : ByteArray} (hn : nm ∈ lostL) : errD (l ++ uD nm :: X) l (uD nm) = (if (findS (X.filter isNm) nm).2 ≠ 0 then (findS (X.filter isNm) nm).2 else agreeS (findS (X.filter isNm) nm).1 t0) := by
  unfold errD
  rw [any_no (fun b hb => nm_user hA hb), if_neg (by simp), if_neg (by show ¬ (3 : Int) = 5; decide), if_pos (.inl rfl)]
  unfold bodyS
  have hf : (l ++ uD nm :: X).filter isNm = l.filter isNm ++ (uD nm :: X.filter isNm) := by
    rw [List.filter_append, List.filter_cons_of_pos (by rfl)]
  have hu : findS (uD nm :: X.filter isNm) nm = findS (X.filter isNm) nm := by
    rw [findS, if_neg]
    simp only [lostL, List.mem_cons, List.not_mem_nil, or_false] at hn
    rcases hn with rfl | rfl | rfl <;> decide +kernel
  show (if (typeS _ _ _ 32 (.mk 3 0 0 0 0 0 nm 0 0 0 kn)).2 ≠ 0 then _ else _) = _
  rw [body_name, hf, findS_skip (nm_lostL hA hn), hu]
  rfl
/-- a name that is not defined -/
theorem chk_user {nm mn : ByteArray} (h32 : hh ≤ 32) (hnm : nameS mn = true) (hn : nm ∈ lostL) : chkL mn (l ++ [uD nm]) = ([((l.length : Int), 7)], 0) := by
  unfold chkL
  have hX : ∀ d, d ∈ [uD nm] → nameS d.nm = true ∧ defS d = true := by
    intro d hd
    obtain rfl : d = uD nm := by simpa using hd
    exact ⟨by show nameS n_user = true; decide +kernel, user_df nm hn⟩
  have hP : ∀ x, x ∈ [uD nm] → isNm x = true → ∀ d, d ∈ l → d.kind = 5 → x.nm.toList ≠ d.nm.toList := by
    intro x hx hi d hd hk
    obtain rfl : x = uD nm := by simpa using hx
    exact pastX hA (nm := nm) _ (List.mem_cons_self ..) hi d hd hk
  rw [if_pos (agrX hA hnm (by simp) hX)]
  have e : (l ++ [uD nm]).length = l.length + 1 := by simp
  rw [e]
  have h1 : lF dD (l ++ [uD nm]) l.length = uD nm := lF_at
  have h2 : (l ++ [uD nm]).take l.length = l := by simp
  have h3 : errD (l ++ [uD nm]) l (uD nm) = 7 := by rw [err_user hA hn]; rfl
  show (probS (l ++ [uD nm]) (l.length + 1), (0 : Int)) = _
  unfold probS
  rw [h1, h2, h3, if_neg (by decide), probX hA h32 hP]
  rfl
/-- .. and is defined behind -/
theorem chk_lost {nm mn : ByteArray} (h32 : hh ≤ 32) (hnm : nameS mn = true) (hn : nm ∈ lostL) : chkL mn (l ++ [uD nm, lD]) = (if nm = n_lost then [] else [((l.length : Int), 7)], 0) := by
  unfold chkL
  rw [if_pos (agrX hA hnm (by simp) (fun d hd => by
    simp only [List.mem_cons, List.not_mem_nil, or_false] at hd
    rcases hd with rfl | rfl
    · exact ⟨by show nameS n_user = true; decide +kernel, user_df nm hn⟩
    · exact ⟨by show nameS n_lost = true; decide +kernel, by decide +kernel⟩))]
  have e : (l ++ [uD nm, lD]).length = l.length + 1 + 1 := by simp
  rw [e]
  have h0 : lF dD (l ++ [uD nm, lD]) (l.length + 1) = lD := by
    unfold lF; rw [List.getD_eq_getElem?_getD, List.getElem?_append_right (by omega), show l.length + 1 - l.length = 1 by omega]; rfl
  have h0t : (l ++ [uD nm, lD]).take (l.length + 1) = l ++ [uD nm] := by rw [List.take_append, List.take_of_length_le (by omega), show l.length + 1 - l.length = 1 by omega]; rfl
  have h1 : lF dD (l ++ [uD nm, lD]) l.length = uD nm := lF_at
  have h2 : (l ++ [uD nm, lD]).take l.length = l := by simp
  have hl : errD (l ++ [uD nm, lD]) (l ++ [uD nm]) lD = 0 := by
    unfold errD
    rw [any_no (fun b hb => ?_), if_neg (by simp), if_neg (by show ¬ (1 : Int) = 5; decide), if_neg (by show ¬ ((1 : Int) = 3 ∨ (1 : Int) = 4); decide)]
    rcases List.mem_append.1 hb with h | h
    · exact nm_lost hA h
    · obtain rfl : b = uD nm := by simpa using h
      show n_user.toList ≠ n_lost.toList
      decide +kernel
  have h3 : errD (l ++ [uD nm, lD]) l (uD nm) = if nm = n_lost then 0 else 7 := by
    rw [err_user hA hn]
    simp only [lostL, List.mem_cons, List.not_mem_nil, or_false] at hn
    rcases hn with rfl | rfl | rfl <;> decide +kernel
  show (probS (l ++ [uD nm, lD]) (l.length + 1 + 1), (0 : Int)) = _
  unfold probS
  rw [h0, h0t, hl, if_pos rfl]
  unfold probS
  rw [h1, h2, h3, probX hA h32 (pastX hA)]
  by_cases hc : nm = n_lost
  · rw [if_pos hc, if_pos rfl, if_pos hc]
  · rw [if_neg hc, if_neg (by decide), if_neg hc]; rfl
end
set_option maxHeartbeats 4000000 in
theorem copy_r (k : Nat) (l : List Df) (hlk : l.length = k + 1) (hk30 : k ≤ 1000) : RowsC G.P 12 [oRow cD 21 (k + 1) (lF dD l)] [.agg 2 (nthP [vs n_metal, .lsl 0 0 (k + 1)])] (fun r rows => r = .agg 2 (nthP [vs n_metal, .lsl 2 0 (k + 1)]) ∧ rows = [oRow cD 21 (k + 1) (lF dD l), rA (k + 1) 2, oRow cD 21 (k + 1) (lF dD l)]) := by
  refine rows_of (G := G.toPg) (fn := Try.f12) Try.func12 rfl rfl rfl ?_; intro Γ hk
  replace hk : Γ.k0 = 1 := hk
  repeat' (first | refine xo 4000 rfl ?_ ?_ | refine xw 4000 rfl ?_ ?_ | refine xk 4000 rfl ?_ ?_ | exact trivial | ((with_reducible (show AllP (_ :: _))); refine And.intro ?_ ?_) | refine xs rfl ?_ ?_ | refine xs_done ?_ | refine xs_last rfl rfl (stepOp_pst rfl ?_ ?_) | refine xs_start (id := 1) true [.take 0, .take 1, .take 3, .take 4, .one 2, .one 5, .take 6, .one 7] 0 rfl rfl (by kernel_rfl) ?_ | exact ⟨(show 0 + (k + 1) ≤ k + 1 from by omega), (by rw [hk]; exact Nat.le_of_ble_eq_true rfl), Nat.le_refl _, (show (0 + (k + 1) : Nat) * 216 ≤ 140737488355328 from by omega), (show (0 + (k + 1) : Nat) ≤ 9223372036854775807 from by omega)⟩ | refine pcond_t rfl ?_ | refine pcond_f rfl ?_ | refine kround_exit ?_ | refine kround_ret ?_ | refine kround_next ?_ | refine kloop_ret ?_ | refine kloop_exit ?_ | refine kcut_ret ?_ | refine kcut_exit ?_ | refine xo0 4000 rfl ?_ ?_ | refine xw0 4000 rfl ?_ ?_ | exact qq | fail)
  refine xdone ?_
  exact kretr (st' := ⟨[(2, .ptr 1 0 0)], [oRow cD 21 (k + 1) (lF dD l), rA (k + 1) 2, oRow cD 21 (k + 1) (lF dD l)]⟩) (can_rowsv [0, 2, 4] (k0_sel hk rfl) rfl (.cons rfl (RowEq.cl (o_cl cD_cl _ _ _)) (.cons rfl (var_eq ⟨PEq.refl _, PEq.of (by show PV.lsl 2 0 (0 + (k + 1)) = _; rw [Nat.zero_add]; rfl), trivial⟩) (.cons rfl (o_eq cD_cl (by show k + 1 ≤ 0 + (k + 1); omega) fun a ha b hb => by
    rw [appF_ge _ _ (Nat.zero_le _), Nat.sub_zero, Nat.zero_add]; rfl) .nil))) tmq) rfl ⟨Nat.zero_lt_one, trivial⟩ rfl ⟨rfl, rfl⟩
section
variable {G : Pg2} {N : Nat} {Γ : Fr} {st : PSt}
variable {ops : Array Oper} {o : Oper} {d : Nat}
/-- a call whose rows and result are told in other words, in a region that draws -/
theorem pst_rowsd {K' : PSt → Prop} {f : FuncId} {x : Operand} {args : Array Operand} {tys : Array TypeId} {n : Nat} {c : Nat → PV} {rows : List Row} {qs : List PV} {post : PV → List Row → Prop} (sel : List Nat) (hg : o.guard = none) (hdst : o.dst = some d) (hN : Nat.blt d N = true)
    (ho : o.op = .call ⟨.value x, args, tys⟩) (hx : st.ev x = .clo f n c) (hd : nodupB sel = true) (hs : SelOk st.mem sel sel rows) (hc : RowsC G.P f rows qs post) (ha : PEqL ((args.toList.map st.ev ++ capL n c 0).map (PV.ren (inv sel 0))) qs)
    (h : ∀ r rows', post r rows' → ∃ rows2 m r', RowsR (tau sel (lenK st.mem 0)) rows' rows2 ∧ putP sel rows2 st.mem some = some m ∧ PEq (r.ren (tau sel (lenK st.mem 0))) r' ∧ K' (PSt.put ⟨st.tm, m⟩ d r')) : PStep G N Γ ops o st sel false K' := .mk fun ρ I a w hrel Q => by
  have hw : Region.wanted o (yielded ops a.tmps) = true := by simp [Region.wanted, hg]
  rw [if_pos hw]
  refine rows_core (G := G.toPg) sel hrel ho (hx ▸ ev_rel hrel x) hd hs hc ha ?_
  intro v r rows' ρ2 I' w' hpost hr hch hv
  obtain ⟨rows2, m, r', e0, e1, e2, hk⟩ := h r rows' hpost
  rw [putP_eq] at e1
  rw [lenK_eq, Nat.zero_add] at e0 e2
  simp only [Option.some.injEq] at e1
  obtain ⟨q1, q2⟩ := putPl_eq2 (tau sel st.mem.length) sel rows' rows2 st.mem st.mem e0 rfl (fun l r' h => ⟨r', h, RowEq.refl _⟩)
  have hr2 := hr.rowsEq q1 q2
  rw [← q1] at hv
  rw [e1] at hr2 hv q2
  rw [hdst]
  refine ⟨_, ρ2, I', hk, hr2.put (by rwa [Nat.blt_eq] at hN) (e2 _ _ _ _ _ hv), hch.size, hch.same, hch.loc, hch.imm, fun l r1 hl hs1 => ?_, fun l r1 hl ho1 => ?_⟩
  · obtain ⟨r2, f1, f2, _⟩ := q2 l r1 hl
    exact hch.live l r2 f1 (by rw [← f2]; exact hs1)
  · obtain ⟨r2, f1, f2, _⟩ := q2 l r1 hl
    exact hch.own l r2 f1 (by rw [← f2]; exact ho1)
end
section
variable {N : Nat} {Γ : Fr} {st : PSt} {ρ : Nat → Loc} {I : Nat → Prop} {a : Act} {w : World}
/-- the rows sel are kept, under new numbers; where they lie is told -/
theorem rel_selv (sel : List Nat) {tm : List (Nat × PV)} {rows : List Row} (hk : Γ.k0 ≤ sel.length ∧ ∀ i, i < Γ.k0 → sel[i]? = some i) (hd : nodupB sel = true) (hs : SelV st.mem sel sel rows) (ht : TmOk st sel tm) (h : Rel N Γ st ρ I a w) : Rel N Γ ⟨tm, rows⟩ (sub sel ρ) I a w := by
  have hnd := nodupB_ok sel hd
  obtain ⟨hlen, hget⟩ := SelV.get sel rows hs
  have slot : ∀ (tm : List (Nat × PV)), TmOk st sel tm → ∀ t, VRel rows.length (sub sel ρ) I w (look t tm) (a.tmps.getD t undef) := by
    intro tm
    induction tm with
    | nil => intro _ t; trivial
    | cons x tm ih =>
      obtain ⟨s, p⟩ := x
      intro hx t
      simp only [look]
      cases hb : Nat.beq t s
      · exact ih hx.2 t
      · obtain rfl : t = s := Nat.eq_of_beq_eq_true hb
        exact hx.1 _ _ _ _ _ (VRel.ren (inv_ok hlen) _ _ (h.slot t))
  refine ⟨⟨h.fr.m.selv hs hnd, h.fr.os, h.fr.tape, h.fr.output, h.fr.size, h.fr.block, h.fr.shape, h.fr.old, h.fr.new, fun i r hi ho hlt => ?_, fun i r hi ho hki => ?_, by simp only; omega, fun l hl => ?_, fun i r hi ho hki => ?_⟩, h.defers, h.size, slot tm ht⟩
  · obtain ⟨l, r0, e1, e2, e4, _⟩ := hget i r hi
    rw [sub_get e1] at hlt ⊢
    exact h.fr.own l r0 e2 (by rw [e4] at ho; exact ho) hlt
  · obtain ⟨l, r0, e1, e2, e4, _⟩ := hget i r hi
    rw [sub_get e1]
    refine h.fr.fresh l r0 e2 (by rw [e4] at ho; exact ho) ?_
    by_cases hlt : l < Γ.k0
    · have := (List.getElem?_inj (getLt e1) hnd).1 (e1.trans (hk.2 l hlt).symm)
      omega
    · omega
  · rw [sub_get (hk.2 l hl)]; exact h.fr.ρ0 l hl
  · obtain ⟨l, r0, e1, e2, e4, _⟩ := hget i r hi
    rw [sub_get e1]
    have e4 : r.s = r0.s := e4
    refine h.fr.sfresh l r0 e2 (by rw [e4] at ho; exact ho) ?_
    by_cases hlt : l < Γ.k0
    · have := (List.getElem?_inj (getLt e1) hnd).1 (e1.trans (hk.2 l hlt).symm)
      omega
    · omega
end
/-- the rows that are held keep their numbers -/
def keepB (sel : List Nat) : List Nat → Bool
  | [] => true
  | l :: H => (sel[l]? == some l) && keepB sel H
theorem keepB_spec {sel : List Nat} : ∀ {H : List Nat}, keepB sel H = true → ∀ l, l ∈ H → sel[l]? = some l
  | [], _, l, hl => absurd hl List.not_mem_nil
  | x :: H, h, l, hl => by
    simp only [keepB, Bool.and_eq_true, beq_iff_eq] at h
    rcases List.mem_cons.1 hl with rfl | hl
    · exact h.1
    · exact keepB_spec h.2 l hl
/-- the state of a schedule under new numbers -/
theorem ps_can {G : Pg2} {N : Nat} {Γ : Fr} {K : Exit → PSt → Prop} {ops : Array Oper} {H : List Nat} {ni fin : Bool} {m : Nat} {ls : Array Bool} {sch : Sched} {st : PSt} (sel : List Nat) {tm : List (Nat × PV)} {rows : List Row} (hk : Γ.k0 ≤ sel.length ∧ ∀ i, i < Γ.k0 → sel[i]? = some i) (hd : nodupB sel = true) (hH : keepB sel H = true) (hs : SelV st.mem sel sel rows) (ht : TmOk st sel tm)
    (h : PS G N Γ ops H ni fin sch m ls ⟨tm, rows⟩ K) : PS G N Γ ops H ni fin sch m ls st K := ⟨fun h1 h2 => .mk fun HB w1 ρ I a w hrel hinv => by
  have hnd := nodupB_ok sel hd
  obtain ⟨hlen, hget⟩ := SelV.get sel rows hs
  have hkeep := keepB_spec hH
  refine (h.go h1 h2).go HB w1 (sub sel ρ) I a w (rel_selv sel hk hd hs ht hrel) ⟨hinv.same, hinv.lt, fun l r hl hr hlive => ?_, fun l r hl hr ho => ?_, hinv.imm⟩
  · obtain ⟨l0, r0, e1, e2, e4, _⟩ := hget l r hr
    have e4 : r.s = r0.s := e4
    rw [sub_get e1]
    have := hkeep l hl
    rw [e1] at this
    obtain rfl : l0 = l := by simpa using this
    exact hinv.held l0 r0 hl e2 (by rw [← e4]; exact hlive)
  · obtain ⟨l0, r0, e1, e2, e4, _⟩ := hget l r hr
    have e4 : r.s = r0.s := e4
    rw [sub_get e1]
    refine hinv.free l0 r0 (fun hm => ?_) e2 (by rw [← e4]; exact ho)
    have h3 := hkeep l0 hm
    have := (List.getElem?_inj (getLt e1) hnd).1 (e1.trans h3.symm)
    exact hl (this ▸ hm)⟩
def hOps : Code → Array Oper
  | .seq (.region _ ops _) _ => ops
  | _ => #[]
theorem ps_ls {G : Pg2} {N : Nat} {Γ : Fr} {K : Exit → PSt → Prop} {ops : Array Oper} {H : List Nat} {ni fin : Bool} {m : Nat} {ls ls' : Array Bool} {sch : Sched} {st : PSt} (h : (ls == ls') = true) (hp : PS G N Γ ops H ni fin sch m ls' st K) : PS G N Γ ops H ni fin sch m ls st K := by
  have : ls = ls' := by simpa using h
  subst this; exact hp
/-- a variable that holds a definition -/
abbrev rDv (d : Df) : Row := ⟨.own, true, 1, 21, fun _ => nthP (cD d)⟩
abbrev agl (k r : Nat) : PV := .agg 2 (nthP [vs n_metal, .lsl r 0 (k + 1)])
abbrev cpR (k : Nat) (l : List Df) : Row := oRow cD 21 (k + 1) (lF dD l)
theorem rDv_cl (d : Df) : rowCl (rDv d) := fun i _ j _ => clL_nth _ j (cD_cl d)
theorem svq {P : Prop} (h : P := by (repeat (refine SelV.cons rfl (by first | exact RowEq.cl (tape_cl _ _ _) | exact RowEq.cl (o_cl cD_cl _ _ _) | exact rA_eq rfl | exact RowEq.cl (rDv_cl _) | exact rqq) ?_)); exact SelV.nil) : P := h
theorem tvq {P : Prop} (h : P := by (repeat (first | refine ⟨PEq.refl _, ?_⟩ | refine ⟨peqA rfl, ?_⟩)); exact trivial) : P := h
theorem cst {G : Pg2} {N : Nat} {Γ : Fr} {k : Nat} {l : List Df} {ops : Array Oper} {o : Oper} {d : Nat} {f : FuncId} {x : Operand} {args : Array Operand} {tys : Array TypeId} {n : Nat} {c : Nat → PV} {st : PSt} {K' : PSt → Prop} {m : List Row} {q : Nat} (hc : RowsC G.P f [cpR k l] [agl k 0] (fun r rows => r = agl k 2 ∧ rows = [cpR k l, rA (k + 1) 2, cpR k l])) (hg : o.guard = none) (hdst : o.dst = some d) (hN : Nat.blt d N = true)
    (ho : o.op = .call ⟨.value x, args, tys⟩) (hx : st.ev x = .clo f n c) (hs : SelOk st.mem [1] [1] [cpR k l]) (ha : PEqL ((args.toList.map st.ev ++ capL n c 0).map (PV.ren (inv [1] 0))) [agl k 0])
    (hq : tau [1] (lenK st.mem 0) 2 = some q) (hm : putP [1] [cpR k l, rA (k + 1) q, cpR k l] st.mem some = some m) (h : K' (PSt.put ⟨st.tm, m⟩ d (agl k q))) : PStep G N Γ ops o st [1] false K' :=
  pst_rowsd [1] hg hdst hN ho hx rfl hs hc ha fun r rows ⟨h1, h2⟩ => by
    subst h1 h2
    exact ⟨[cpR k l, rA (k + 1) q, cpR k l], m, agl k q, ⟨RowEq.cl (o_cl cD_cl _ _ _), rA_eq hq, RowEq.cl (o_cl cD_cl _ _ _), trivial⟩, hm, peqA hq, h⟩
set_option maxHeartbeats 20000000 in
theorem reg11 (n : Nat) (g : Nat → Int) (at_ : Int) (k : Nat) (l : List Df) (d : Df) (sm : Int) (hlk : l.length = k + 1) (hk30 : k ≤ 1000) (Γ : Fr) (hk : Γ.k0 = 0) (K : Exit → PSt → Prop)
    (hK : ∀ st, Can Try.f4.ntmps Γ st ⟨[(5, .ptr 0 0 0), (6, .ptr 2 0 0), (7, .ptr 3 0 0), (9, vi sm), (10, .ptr 7 0 0), (11, .ptr 8 0 0), (12, .ptr 9 0 0)], [tapeRow n g at_, cpR k l, rA (k + 1) 1, rDv d, cpR k l, cpR k l, cpR k l, rA (k + 1) 4, rA (k + 1) 5, rA (k + 1) 6]⟩ → K .normal st) :
    PWp G.toPg Try.f4.ntmps Γ (.region 11 (hOps (dropS 7 (Try.f4.body.getD .skip))) true) ⟨[(5, .ptr 0 0 0), (6, .ptr 2 0 0), (7, .ptr 3 0 0), (9, vi sm)], [tapeRow n g at_, cpR k l, rA (k + 1) 1, rDv d]⟩ K := by
  have hc := copy_r k l hlk hk30
  have h3_678 : PS G Try.f4.ntmps Γ (hOps (dropS 7 (Try.f4.body.getD .skip))) [0, 2, 3] false false [] 3 (lsF [0, 1, 2, 3, 4, 5, 6, 7, 8] 12) ⟨[(5, .ptr 0 0 0), (6, .ptr 2 0 0), (7, .ptr 3 0 0), (9, vi sm), (51, agl k 1), (53, agl k 1), (55, agl k 1), (52, agl k 4), (54, agl k 5), (56, agl k 6), (10, .ptr 7 0 0), (11, .ptr 8 0 0), (12, .ptr 9 0 0)], [tapeRow n g at_, cpR k l, rA (k + 1) 1, rDv d, cpR k l, cpR k l, cpR k l, rZA, rZA, rZA]⟩ K := by
    refine xs_moreF (sch := [.one 9, .one 10, .one 11]) (fin := true) (m' := 0) (n := 12) [0, 1, 2, 3, 4, 5, 6, 7, 8] (by decide +kernel) (by kernel_rfl) ?_
    repeat' (first | refine xs rfl ?_ ?_ | exact trivial | ((with_reducible (show AllP (_ :: _))); refine And.intro ?_ ?_) | exact qq | fail)
    refine xs_done ?_
    exact hK _ (can_rowsv [0, 1, 2, 3, 4, 5, 6, 7, 8, 9] (k0_sel (show Γ.k0 = 0 from hk) rfl) rfl svq tmq)
  have h2_678 : PS G Try.f4.ntmps Γ (hOps (dropS 7 (Try.f4.body.getD .skip))) [0, 2, 3] false false [] 4 (lsF [0, 1, 2, 3, 4, 6, 7, 8] 12) ⟨[(5, .ptr 0 0 0), (6, .ptr 2 0 0), (7, .ptr 3 0 0), (9, vi sm), (51, agl k 1), (53, agl k 1), (55, agl k 1), (52, agl k 4), (54, agl k 5), (10, .ptr 6 0 0), (11, .ptr 7 0 0), (12, .ptr 8 0 0)], [tapeRow n g at_, cpR k l, rA (k + 1) 1, rDv d, cpR k l, cpR k l, rZA, rZA, rZA]⟩ K := by
    refine xs_brT (n := 12) [0, 1, 2, 3, 4, 6, 7, 8] [(5, [], false, 3)] (by decide +kernel) rfl (by kernel_rfl) (by kernel_rfl) ?_
    refine .cons ?_ (.nil)
    · refine ⟨_, [1], _, rfl, rfl, cst hc rfl rfl rfl rfl rfl (by exact .cons rfl trivial (RowEq.cl (o_cl cD_cl _ _ _)) .nil) (by exact ⟨peqA rfl, trivial⟩) rfl rfl ?_⟩
      exact ps_can [0, 1, 2, 3, 4, 5, 10, 6, 7, 8] (k0_sel (show Γ.k0 = 0 from hk) rfl) rfl rfl svq tvq (ps_ls (by decide +kernel) h3_678)
  have h3_67 : PS G Try.f4.ntmps Γ (hOps (dropS 7 (Try.f4.body.getD .skip))) [0, 2, 3] false false [] 4 (lsF [0, 1, 2, 3, 4, 5, 6, 7] 12) ⟨[(5, .ptr 0 0 0), (6, .ptr 2 0 0), (7, .ptr 3 0 0), (9, vi sm), (51, agl k 1), (53, agl k 1), (55, agl k 1), (52, agl k 4), (54, agl k 5), (56, agl k 6), (10, .ptr 7 0 0), (11, .ptr 8 0 0)], [tapeRow n g at_, cpR k l, rA (k + 1) 1, rDv d, cpR k l, cpR k l, cpR k l, rZA, rZA]⟩ K := by
    refine xs_brT (n := 12) [0, 1, 2, 3, 4, 5, 6, 7] [(8, [], false, 3)] (by decide +kernel) rfl (by kernel_rfl) (by kernel_rfl) ?_
    refine .cons ?_ (.nil)
    · refine ⟨_, [], true, rfl, rfl, stepOp_pst rfl ?_ ?_⟩
      · exact trivial
      · exact ps_can [0, 1, 2, 3, 4, 5, 6, 7, 8, 9] (k0_sel (show Γ.k0 = 0 from hk) rfl) rfl rfl svq tvq (ps_ls (by decide +kernel) h3_678)
  have h3_68 : PS G Try.f4.ntmps Γ (hOps (dropS 7 (Try.f4.body.getD .skip))) [0, 2, 3] false false [] 4 (lsF [0, 1, 2, 3, 4, 5, 6, 8] 12) ⟨[(5, .ptr 0 0 0), (6, .ptr 2 0 0), (7, .ptr 3 0 0), (9, vi sm), (51, agl k 1), (53, agl k 1), (55, agl k 1), (52, agl k 4), (54, agl k 5), (56, agl k 6), (10, .ptr 7 0 0), (12, .ptr 8 0 0)], [tapeRow n g at_, cpR k l, rA (k + 1) 1, rDv d, cpR k l, cpR k l, cpR k l, rZA, rZA]⟩ K := by
    refine xs_brT (n := 12) [0, 1, 2, 3, 4, 5, 6, 8] [(7, [], false, 3)] (by decide +kernel) rfl (by kernel_rfl) (by kernel_rfl) ?_
    refine .cons ?_ (.nil)
    · refine ⟨_, [], true, rfl, rfl, stepOp_pst rfl ?_ ?_⟩
      · exact trivial
      · exact ps_can [0, 1, 2, 3, 4, 5, 6, 7, 9, 8] (k0_sel (show Γ.k0 = 0 from hk) rfl) rfl rfl svq tvq (ps_ls (by decide +kernel) h3_678)
  have h3_78 : PS G Try.f4.ntmps Γ (hOps (dropS 7 (Try.f4.body.getD .skip))) [0, 2, 3] false false [] 4 (lsF [0, 1, 2, 3, 4, 5, 7, 8] 12) ⟨[(5, .ptr 0 0 0), (6, .ptr 2 0 0), (7, .ptr 3 0 0), (9, vi sm), (51, agl k 1), (53, agl k 1), (55, agl k 1), (52, agl k 4), (54, agl k 5), (56, agl k 6), (11, .ptr 7 0 0), (12, .ptr 8 0 0)], [tapeRow n g at_, cpR k l, rA (k + 1) 1, rDv d, cpR k l, cpR k l, cpR k l, rZA, rZA]⟩ K := by
    refine xs_brT (n := 12) [0, 1, 2, 3, 4, 5, 7, 8] [(6, [], false, 3)] (by decide +kernel) rfl (by kernel_rfl) (by kernel_rfl) ?_
    refine .cons ?_ (.nil)
    · refine ⟨_, [], true, rfl, rfl, stepOp_pst rfl ?_ ?_⟩
      · exact trivial
      · exact ps_can [0, 1, 2, 3, 4, 5, 6, 9, 7, 8] (k0_sel (show Γ.k0 = 0 from hk) rfl) rfl rfl svq tvq (ps_ls (by decide +kernel) h3_678)
  have h1_678 : PS G Try.f4.ntmps Γ (hOps (dropS 7 (Try.f4.body.getD .skip))) [0, 2, 3] false false [] 5 (lsF [0, 1, 2, 4, 6, 7, 8] 12) ⟨[(5, .ptr 0 0 0), (6, .ptr 2 0 0), (7, .ptr 3 0 0), (9, vi sm), (51, agl k 1), (53, agl k 1), (55, agl k 1), (52, agl k 4), (10, .ptr 5 0 0), (11, .ptr 6 0 0), (12, .ptr 7 0 0)], [tapeRow n g at_, cpR k l, rA (k + 1) 1, rDv d, cpR k l, rZA, rZA, rZA]⟩ K := by
    refine xs_brT (n := 12) [0, 1, 2, 4, 6, 7, 8] [(3, [], false, 4)] (by decide +kernel) rfl (by kernel_rfl) (by kernel_rfl) ?_
    refine .cons ?_ (.nil)
    · refine ⟨_, [1], _, rfl, rfl, cst hc rfl rfl rfl rfl rfl (by exact .cons rfl trivial (RowEq.cl (o_cl cD_cl _ _ _)) .nil) (by exact ⟨peqA rfl, trivial⟩) rfl rfl ?_⟩
      exact ps_can [0, 1, 2, 3, 4, 9, 5, 6, 7] (k0_sel (show Γ.k0 = 0 from hk) rfl) rfl rfl svq tvq (ps_ls (by decide +kernel) h2_678)
  have h2_67 : PS G Try.f4.ntmps Γ (hOps (dropS 7 (Try.f4.body.getD .skip))) [0, 2, 3] false false [] 5 (lsF [0, 1, 2, 3, 4, 6, 7] 12) ⟨[(5, .ptr 0 0 0), (6, .ptr 2 0 0), (7, .ptr 3 0 0), (9, vi sm), (51, agl k 1), (53, agl k 1), (55, agl k 1), (52, agl k 4), (54, agl k 5), (10, .ptr 6 0 0), (11, .ptr 7 0 0)], [tapeRow n g at_, cpR k l, rA (k + 1) 1, rDv d, cpR k l, cpR k l, rZA, rZA]⟩ K := by
    refine xs_brT (n := 12) [0, 1, 2, 3, 4, 6, 7] [(5, [], false, 4), (8, [], false, 4)] (by decide +kernel) rfl (by kernel_rfl) (by kernel_rfl) ?_
    refine .cons ?_ (.cons ?_ (.nil))
    · refine ⟨_, [1], _, rfl, rfl, cst hc rfl rfl rfl rfl rfl (by exact .cons rfl trivial (RowEq.cl (o_cl cD_cl _ _ _)) .nil) (by exact ⟨peqA rfl, trivial⟩) rfl rfl ?_⟩
      exact ps_can [0, 1, 2, 3, 4, 5, 9, 6, 7] (k0_sel (show Γ.k0 = 0 from hk) rfl) rfl rfl svq tvq (ps_ls (by decide +kernel) h3_67)
    · refine ⟨_, [], true, rfl, rfl, stepOp_pst rfl ?_ ?_⟩
      · exact trivial
      · exact ps_can [0, 1, 2, 3, 4, 5, 6, 7, 8] (k0_sel (show Γ.k0 = 0 from hk) rfl) rfl rfl svq tvq (ps_ls (by decide +kernel) h2_678)
  have h2_68 : PS G Try.f4.ntmps Γ (hOps (dropS 7 (Try.f4.body.getD .skip))) [0, 2, 3] false false [] 5 (lsF [0, 1, 2, 3, 4, 6, 8] 12) ⟨[(5, .ptr 0 0 0), (6, .ptr 2 0 0), (7, .ptr 3 0 0), (9, vi sm), (51, agl k 1), (53, agl k 1), (55, agl k 1), (52, agl k 4), (54, agl k 5), (10, .ptr 6 0 0), (12, .ptr 7 0 0)], [tapeRow n g at_, cpR k l, rA (k + 1) 1, rDv d, cpR k l, cpR k l, rZA, rZA]⟩ K := by
    refine xs_brT (n := 12) [0, 1, 2, 3, 4, 6, 8] [(5, [], false, 4), (7, [], false, 4)] (by decide +kernel) rfl (by kernel_rfl) (by kernel_rfl) ?_
    refine .cons ?_ (.cons ?_ (.nil))
    · refine ⟨_, [1], _, rfl, rfl, cst hc rfl rfl rfl rfl rfl (by exact .cons rfl trivial (RowEq.cl (o_cl cD_cl _ _ _)) .nil) (by exact ⟨peqA rfl, trivial⟩) rfl rfl ?_⟩
      exact ps_can [0, 1, 2, 3, 4, 5, 9, 6, 7] (k0_sel (show Γ.k0 = 0 from hk) rfl) rfl rfl svq tvq (ps_ls (by decide +kernel) h3_68)
    · refine ⟨_, [], true, rfl, rfl, stepOp_pst rfl ?_ ?_⟩
      · exact trivial
      · exact ps_can [0, 1, 2, 3, 4, 5, 6, 8, 7] (k0_sel (show Γ.k0 = 0 from hk) rfl) rfl rfl svq tvq (ps_ls (by decide +kernel) h2_678)
  have h2_78 : PS G Try.f4.ntmps Γ (hOps (dropS 7 (Try.f4.body.getD .skip))) [0, 2, 3] false false [] 5 (lsF [0, 1, 2, 3, 4, 7, 8] 12) ⟨[(5, .ptr 0 0 0), (6, .ptr 2 0 0), (7, .ptr 3 0 0), (9, vi sm), (51, agl k 1), (53, agl k 1), (55, agl k 1), (52, agl k 4), (54, agl k 5), (11, .ptr 6 0 0), (12, .ptr 7 0 0)], [tapeRow n g at_, cpR k l, rA (k + 1) 1, rDv d, cpR k l, cpR k l, rZA, rZA]⟩ K := by
    refine xs_brT (n := 12) [0, 1, 2, 3, 4, 7, 8] [(5, [], false, 4), (6, [], false, 4)] (by decide +kernel) rfl (by kernel_rfl) (by kernel_rfl) ?_
    refine .cons ?_ (.cons ?_ (.nil))
    · refine ⟨_, [1], _, rfl, rfl, cst hc rfl rfl rfl rfl rfl (by exact .cons rfl trivial (RowEq.cl (o_cl cD_cl _ _ _)) .nil) (by exact ⟨peqA rfl, trivial⟩) rfl rfl ?_⟩
      exact ps_can [0, 1, 2, 3, 4, 5, 9, 6, 7] (k0_sel (show Γ.k0 = 0 from hk) rfl) rfl rfl svq tvq (ps_ls (by decide +kernel) h3_78)
    · refine ⟨_, [], true, rfl, rfl, stepOp_pst rfl ?_ ?_⟩
      · exact trivial
      · exact ps_can [0, 1, 2, 3, 4, 5, 8, 6, 7] (k0_sel (show Γ.k0 = 0 from hk) rfl) rfl rfl svq tvq (ps_ls (by decide +kernel) h2_678)
  have h3_6 : PS G Try.f4.ntmps Γ (hOps (dropS 7 (Try.f4.body.getD .skip))) [0, 2, 3] false false [] 5 (lsF [0, 1, 2, 3, 4, 5, 6] 12) ⟨[(5, .ptr 0 0 0), (6, .ptr 2 0 0), (7, .ptr 3 0 0), (9, vi sm), (51, agl k 1), (53, agl k 1), (55, agl k 1), (52, agl k 4), (54, agl k 5), (56, agl k 6), (10, .ptr 7 0 0)], [tapeRow n g at_, cpR k l, rA (k + 1) 1, rDv d, cpR k l, cpR k l, cpR k l, rZA]⟩ K := by
    refine xs_brT (n := 12) [0, 1, 2, 3, 4, 5, 6] [(7, [], false, 4), (8, [], false, 4)] (by decide +kernel) rfl (by kernel_rfl) (by kernel_rfl) ?_
    refine .cons ?_ (.cons ?_ (.nil))
    · refine ⟨_, [], true, rfl, rfl, stepOp_pst rfl ?_ ?_⟩
      · exact trivial
      · exact ps_can [0, 1, 2, 3, 4, 5, 6, 7, 8] (k0_sel (show Γ.k0 = 0 from hk) rfl) rfl rfl svq tvq (ps_ls (by decide +kernel) h3_67)
    · refine ⟨_, [], true, rfl, rfl, stepOp_pst rfl ?_ ?_⟩
      · exact trivial
      · exact ps_can [0, 1, 2, 3, 4, 5, 6, 7, 8] (k0_sel (show Γ.k0 = 0 from hk) rfl) rfl rfl svq tvq (ps_ls (by decide +kernel) h3_68)
  have h3_7 : PS G Try.f4.ntmps Γ (hOps (dropS 7 (Try.f4.body.getD .skip))) [0, 2, 3] false false [] 5 (lsF [0, 1, 2, 3, 4, 5, 7] 12) ⟨[(5, .ptr 0 0 0), (6, .ptr 2 0 0), (7, .ptr 3 0 0), (9, vi sm), (51, agl k 1), (53, agl k 1), (55, agl k 1), (52, agl k 4), (54, agl k 5), (56, agl k 6), (11, .ptr 7 0 0)], [tapeRow n g at_, cpR k l, rA (k + 1) 1, rDv d, cpR k l, cpR k l, cpR k l, rZA]⟩ K := by
    refine xs_brT (n := 12) [0, 1, 2, 3, 4, 5, 7] [(6, [], false, 4), (8, [], false, 4)] (by decide +kernel) rfl (by kernel_rfl) (by kernel_rfl) ?_
    refine .cons ?_ (.cons ?_ (.nil))
    · refine ⟨_, [], true, rfl, rfl, stepOp_pst rfl ?_ ?_⟩
      · exact trivial
      · exact ps_can [0, 1, 2, 3, 4, 5, 6, 8, 7] (k0_sel (show Γ.k0 = 0 from hk) rfl) rfl rfl svq tvq (ps_ls (by decide +kernel) h3_67)
    · refine ⟨_, [], true, rfl, rfl, stepOp_pst rfl ?_ ?_⟩
      · exact trivial
      · exact ps_can [0, 1, 2, 3, 4, 5, 6, 7, 8] (k0_sel (show Γ.k0 = 0 from hk) rfl) rfl rfl svq tvq (ps_ls (by decide +kernel) h3_78)
  have h3_8 : PS G Try.f4.ntmps Γ (hOps (dropS 7 (Try.f4.body.getD .skip))) [0, 2, 3] false false [] 5 (lsF [0, 1, 2, 3, 4, 5, 8] 12) ⟨[(5, .ptr 0 0 0), (6, .ptr 2 0 0), (7, .ptr 3 0 0), (9, vi sm), (51, agl k 1), (53, agl k 1), (55, agl k 1), (52, agl k 4), (54, agl k 5), (56, agl k 6), (12, .ptr 7 0 0)], [tapeRow n g at_, cpR k l, rA (k + 1) 1, rDv d, cpR k l, cpR k l, cpR k l, rZA]⟩ K := by
    refine xs_brT (n := 12) [0, 1, 2, 3, 4, 5, 8] [(6, [], false, 4), (7, [], false, 4)] (by decide +kernel) rfl (by kernel_rfl) (by kernel_rfl) ?_
    refine .cons ?_ (.cons ?_ (.nil))
    · refine ⟨_, [], true, rfl, rfl, stepOp_pst rfl ?_ ?_⟩
      · exact trivial
      · exact ps_can [0, 1, 2, 3, 4, 5, 6, 8, 7] (k0_sel (show Γ.k0 = 0 from hk) rfl) rfl rfl svq tvq (ps_ls (by decide +kernel) h3_68)
    · refine ⟨_, [], true, rfl, rfl, stepOp_pst rfl ?_ ?_⟩
      · exact trivial
      · exact ps_can [0, 1, 2, 3, 4, 5, 6, 8, 7] (k0_sel (show Γ.k0 = 0 from hk) rfl) rfl rfl svq tvq (ps_ls (by decide +kernel) h3_78)
  have h0_678 : PS G Try.f4.ntmps Γ (hOps (dropS 7 (Try.f4.body.getD .skip))) [0, 2, 3] true false [] 6 (lsF [0, 2, 4, 6, 7, 8] 12) ⟨[(5, .ptr 0 0 0), (6, .ptr 2 0 0), (7, .ptr 3 0 0), (9, vi sm), (51, agl k 1), (53, agl k 1), (55, agl k 1), (10, .ptr 4 0 0), (11, .ptr 5 0 0), (12, .ptr 6 0 0)], [tapeRow n g at_, cpR k l, rA (k + 1) 1, rDv d, rZA, rZA, rZA]⟩ K := by
    refine xs_brT (n := 12) [0, 2, 4, 6, 7, 8] [(1, [], false, 5)] (by decide +kernel) rfl (by kernel_rfl) (by kernel_rfl) ?_
    refine .cons ?_ (.nil)
    · refine ⟨_, [1], _, rfl, rfl, cst hc rfl rfl rfl rfl rfl (by exact .cons rfl trivial (RowEq.cl (o_cl cD_cl _ _ _)) .nil) (by exact ⟨peqA rfl, trivial⟩) rfl rfl ?_⟩
      exact ps_can [0, 1, 2, 3, 8, 4, 5, 6] (k0_sel (show Γ.k0 = 0 from hk) rfl) rfl rfl svq tvq (ps_ls (by decide +kernel) h1_678)
  have h1_67 : PS G Try.f4.ntmps Γ (hOps (dropS 7 (Try.f4.body.getD .skip))) [0, 2, 3] false false [] 6 (lsF [0, 1, 2, 4, 6, 7] 12) ⟨[(5, .ptr 0 0 0), (6, .ptr 2 0 0), (7, .ptr 3 0 0), (9, vi sm), (51, agl k 1), (53, agl k 1), (55, agl k 1), (52, agl k 4), (10, .ptr 5 0 0), (11, .ptr 6 0 0)], [tapeRow n g at_, cpR k l, rA (k + 1) 1, rDv d, cpR k l, rZA, rZA]⟩ K := by
    refine xs_brT (n := 12) [0, 1, 2, 4, 6, 7] [(3, [], false, 5), (8, [], false, 5)] (by decide +kernel) rfl (by kernel_rfl) (by kernel_rfl) ?_
    refine .cons ?_ (.cons ?_ (.nil))
    · refine ⟨_, [1], _, rfl, rfl, cst hc rfl rfl rfl rfl rfl (by exact .cons rfl trivial (RowEq.cl (o_cl cD_cl _ _ _)) .nil) (by exact ⟨peqA rfl, trivial⟩) rfl rfl ?_⟩
      exact ps_can [0, 1, 2, 3, 4, 8, 5, 6] (k0_sel (show Γ.k0 = 0 from hk) rfl) rfl rfl svq tvq (ps_ls (by decide +kernel) h2_67)
    · refine ⟨_, [], true, rfl, rfl, stepOp_pst rfl ?_ ?_⟩
      · exact trivial
      · exact ps_can [0, 1, 2, 3, 4, 5, 6, 7] (k0_sel (show Γ.k0 = 0 from hk) rfl) rfl rfl svq tvq (ps_ls (by decide +kernel) h1_678)
  have h1_68 : PS G Try.f4.ntmps Γ (hOps (dropS 7 (Try.f4.body.getD .skip))) [0, 2, 3] false false [] 6 (lsF [0, 1, 2, 4, 6, 8] 12) ⟨[(5, .ptr 0 0 0), (6, .ptr 2 0 0), (7, .ptr 3 0 0), (9, vi sm), (51, agl k 1), (53, agl k 1), (55, agl k 1), (52, agl k 4), (10, .ptr 5 0 0), (12, .ptr 6 0 0)], [tapeRow n g at_, cpR k l, rA (k + 1) 1, rDv d, cpR k l, rZA, rZA]⟩ K := by
    refine xs_brT (n := 12) [0, 1, 2, 4, 6, 8] [(3, [], false, 5), (7, [], false, 5)] (by decide +kernel) rfl (by kernel_rfl) (by kernel_rfl) ?_
    refine .cons ?_ (.cons ?_ (.nil))
    · refine ⟨_, [1], _, rfl, rfl, cst hc rfl rfl rfl rfl rfl (by exact .cons rfl trivial (RowEq.cl (o_cl cD_cl _ _ _)) .nil) (by exact ⟨peqA rfl, trivial⟩) rfl rfl ?_⟩
      exact ps_can [0, 1, 2, 3, 4, 8, 5, 6] (k0_sel (show Γ.k0 = 0 from hk) rfl) rfl rfl svq tvq (ps_ls (by decide +kernel) h2_68)
    · refine ⟨_, [], true, rfl, rfl, stepOp_pst rfl ?_ ?_⟩
      · exact trivial
      · exact ps_can [0, 1, 2, 3, 4, 5, 7, 6] (k0_sel (show Γ.k0 = 0 from hk) rfl) rfl rfl svq tvq (ps_ls (by decide +kernel) h1_678)
  have h1_78 : PS G Try.f4.ntmps Γ (hOps (dropS 7 (Try.f4.body.getD .skip))) [0, 2, 3] false false [] 6 (lsF [0, 1, 2, 4, 7, 8] 12) ⟨[(5, .ptr 0 0 0), (6, .ptr 2 0 0), (7, .ptr 3 0 0), (9, vi sm), (51, agl k 1), (53, agl k 1), (55, agl k 1), (52, agl k 4), (11, .ptr 5 0 0), (12, .ptr 6 0 0)], [tapeRow n g at_, cpR k l, rA (k + 1) 1, rDv d, cpR k l, rZA, rZA]⟩ K := by
    refine xs_brT (n := 12) [0, 1, 2, 4, 7, 8] [(3, [], false, 5), (6, [], false, 5)] (by decide +kernel) rfl (by kernel_rfl) (by kernel_rfl) ?_
    refine .cons ?_ (.cons ?_ (.nil))
    · refine ⟨_, [1], _, rfl, rfl, cst hc rfl rfl rfl rfl rfl (by exact .cons rfl trivial (RowEq.cl (o_cl cD_cl _ _ _)) .nil) (by exact ⟨peqA rfl, trivial⟩) rfl rfl ?_⟩
      exact ps_can [0, 1, 2, 3, 4, 8, 5, 6] (k0_sel (show Γ.k0 = 0 from hk) rfl) rfl rfl svq tvq (ps_ls (by decide +kernel) h2_78)
    · refine ⟨_, [], true, rfl, rfl, stepOp_pst rfl ?_ ?_⟩
      · exact trivial
      · exact ps_can [0, 1, 2, 3, 4, 7, 5, 6] (k0_sel (show Γ.k0 = 0 from hk) rfl) rfl rfl svq tvq (ps_ls (by decide +kernel) h1_678)
  have h2_6 : PS G Try.f4.ntmps Γ (hOps (dropS 7 (Try.f4.body.getD .skip))) [0, 2, 3] false false [] 6 (lsF [0, 1, 2, 3, 4, 6] 12) ⟨[(5, .ptr 0 0 0), (6, .ptr 2 0 0), (7, .ptr 3 0 0), (9, vi sm), (51, agl k 1), (53, agl k 1), (55, agl k 1), (52, agl k 4), (54, agl k 5), (10, .ptr 6 0 0)], [tapeRow n g at_, cpR k l, rA (k + 1) 1, rDv d, cpR k l, cpR k l, rZA]⟩ K := by
    refine xs_brT (n := 12) [0, 1, 2, 3, 4, 6] [(5, [], false, 5), (7, [], false, 5), (8, [], false, 5)] (by decide +kernel) rfl (by kernel_rfl) (by kernel_rfl) ?_
    refine .cons ?_ (.cons ?_ (.cons ?_ (.nil)))
    · refine ⟨_, [1], _, rfl, rfl, cst hc rfl rfl rfl rfl rfl (by exact .cons rfl trivial (RowEq.cl (o_cl cD_cl _ _ _)) .nil) (by exact ⟨peqA rfl, trivial⟩) rfl rfl ?_⟩
      exact ps_can [0, 1, 2, 3, 4, 5, 8, 6] (k0_sel (show Γ.k0 = 0 from hk) rfl) rfl rfl svq tvq (ps_ls (by decide +kernel) h3_6)
    · refine ⟨_, [], true, rfl, rfl, stepOp_pst rfl ?_ ?_⟩
      · exact trivial
      · exact ps_can [0, 1, 2, 3, 4, 5, 6, 7] (k0_sel (show Γ.k0 = 0 from hk) rfl) rfl rfl svq tvq (ps_ls (by decide +kernel) h2_67)
    · refine ⟨_, [], true, rfl, rfl, stepOp_pst rfl ?_ ?_⟩
      · exact trivial
      · exact ps_can [0, 1, 2, 3, 4, 5, 6, 7] (k0_sel (show Γ.k0 = 0 from hk) rfl) rfl rfl svq tvq (ps_ls (by decide +kernel) h2_68)
  have h2_7 : PS G Try.f4.ntmps Γ (hOps (dropS 7 (Try.f4.body.getD .skip))) [0, 2, 3] false false [] 6 (lsF [0, 1, 2, 3, 4, 7] 12) ⟨[(5, .ptr 0 0 0), (6, .ptr 2 0 0), (7, .ptr 3 0 0), (9, vi sm), (51, agl k 1), (53, agl k 1), (55, agl k 1), (52, agl k 4), (54, agl k 5), (11, .ptr 6 0 0)], [tapeRow n g at_, cpR k l, rA (k + 1) 1, rDv d, cpR k l, cpR k l, rZA]⟩ K := by
    refine xs_brT (n := 12) [0, 1, 2, 3, 4, 7] [(5, [], false, 5), (6, [], false, 5), (8, [], false, 5)] (by decide +kernel) rfl (by kernel_rfl) (by kernel_rfl) ?_
    refine .cons ?_ (.cons ?_ (.cons ?_ (.nil)))
    · refine ⟨_, [1], _, rfl, rfl, cst hc rfl rfl rfl rfl rfl (by exact .cons rfl trivial (RowEq.cl (o_cl cD_cl _ _ _)) .nil) (by exact ⟨peqA rfl, trivial⟩) rfl rfl ?_⟩
      exact ps_can [0, 1, 2, 3, 4, 5, 8, 6] (k0_sel (show Γ.k0 = 0 from hk) rfl) rfl rfl svq tvq (ps_ls (by decide +kernel) h3_7)
    · refine ⟨_, [], true, rfl, rfl, stepOp_pst rfl ?_ ?_⟩
      · exact trivial
      · exact ps_can [0, 1, 2, 3, 4, 5, 7, 6] (k0_sel (show Γ.k0 = 0 from hk) rfl) rfl rfl svq tvq (ps_ls (by decide +kernel) h2_67)
    · refine ⟨_, [], true, rfl, rfl, stepOp_pst rfl ?_ ?_⟩
      · exact trivial
      · exact ps_can [0, 1, 2, 3, 4, 5, 6, 7] (k0_sel (show Γ.k0 = 0 from hk) rfl) rfl rfl svq tvq (ps_ls (by decide +kernel) h2_78)
  have h2_8 : PS G Try.f4.ntmps Γ (hOps (dropS 7 (Try.f4.body.getD .skip))) [0, 2, 3] false false [] 6 (lsF [0, 1, 2, 3, 4, 8] 12) ⟨[(5, .ptr 0 0 0), (6, .ptr 2 0 0), (7, .ptr 3 0 0), (9, vi sm), (51, agl k 1), (53, agl k 1), (55, agl k 1), (52, agl k 4), (54, agl k 5), (12, .ptr 6 0 0)], [tapeRow n g at_, cpR k l, rA (k + 1) 1, rDv d, cpR k l, cpR k l, rZA]⟩ K := by
    refine xs_brT (n := 12) [0, 1, 2, 3, 4, 8] [(5, [], false, 5), (6, [], false, 5), (7, [], false, 5)] (by decide +kernel) rfl (by kernel_rfl) (by kernel_rfl) ?_
    refine .cons ?_ (.cons ?_ (.cons ?_ (.nil)))
    · refine ⟨_, [1], _, rfl, rfl, cst hc rfl rfl rfl rfl rfl (by exact .cons rfl trivial (RowEq.cl (o_cl cD_cl _ _ _)) .nil) (by exact ⟨peqA rfl, trivial⟩) rfl rfl ?_⟩
      exact ps_can [0, 1, 2, 3, 4, 5, 8, 6] (k0_sel (show Γ.k0 = 0 from hk) rfl) rfl rfl svq tvq (ps_ls (by decide +kernel) h3_8)
    · refine ⟨_, [], true, rfl, rfl, stepOp_pst rfl ?_ ?_⟩
      · exact trivial
      · exact ps_can [0, 1, 2, 3, 4, 5, 7, 6] (k0_sel (show Γ.k0 = 0 from hk) rfl) rfl rfl svq tvq (ps_ls (by decide +kernel) h2_68)
    · refine ⟨_, [], true, rfl, rfl, stepOp_pst rfl ?_ ?_⟩
      · exact trivial
      · exact ps_can [0, 1, 2, 3, 4, 5, 7, 6] (k0_sel (show Γ.k0 = 0 from hk) rfl) rfl rfl svq tvq (ps_ls (by decide +kernel) h2_78)
  have h3_ : PS G Try.f4.ntmps Γ (hOps (dropS 7 (Try.f4.body.getD .skip))) [0, 2, 3] false false [] 6 (lsF [0, 1, 2, 3, 4, 5] 12) ⟨[(5, .ptr 0 0 0), (6, .ptr 2 0 0), (7, .ptr 3 0 0), (9, vi sm), (51, agl k 1), (53, agl k 1), (55, agl k 1), (52, agl k 4), (54, agl k 5), (56, agl k 6)], [tapeRow n g at_, cpR k l, rA (k + 1) 1, rDv d, cpR k l, cpR k l, cpR k l]⟩ K := by
    refine xs_brT (n := 12) [0, 1, 2, 3, 4, 5] [(6, [], false, 5), (7, [], false, 5), (8, [], false, 5)] (by decide +kernel) rfl (by kernel_rfl) (by kernel_rfl) ?_
    refine .cons ?_ (.cons ?_ (.cons ?_ (.nil)))
    · refine ⟨_, [], true, rfl, rfl, stepOp_pst rfl ?_ ?_⟩
      · exact trivial
      · exact ps_can [0, 1, 2, 3, 4, 5, 6, 7] (k0_sel (show Γ.k0 = 0 from hk) rfl) rfl rfl svq tvq (ps_ls (by decide +kernel) h3_6)
    · refine ⟨_, [], true, rfl, rfl, stepOp_pst rfl ?_ ?_⟩
      · exact trivial
      · exact ps_can [0, 1, 2, 3, 4, 5, 6, 7] (k0_sel (show Γ.k0 = 0 from hk) rfl) rfl rfl svq tvq (ps_ls (by decide +kernel) h3_7)
    · refine ⟨_, [], true, rfl, rfl, stepOp_pst rfl ?_ ?_⟩
      · exact trivial
      · exact ps_can [0, 1, 2, 3, 4, 5, 6, 7] (k0_sel (show Γ.k0 = 0 from hk) rfl) rfl rfl svq tvq (ps_ls (by decide +kernel) h3_8)
  have h0_67 : PS G Try.f4.ntmps Γ (hOps (dropS 7 (Try.f4.body.getD .skip))) [0, 2, 3] true false [] 7 (lsF [0, 2, 4, 6, 7] 12) ⟨[(5, .ptr 0 0 0), (6, .ptr 2 0 0), (7, .ptr 3 0 0), (9, vi sm), (51, agl k 1), (53, agl k 1), (55, agl k 1), (10, .ptr 4 0 0), (11, .ptr 5 0 0)], [tapeRow n g at_, cpR k l, rA (k + 1) 1, rDv d, rZA, rZA]⟩ K := by
    refine xs_brT (n := 12) [0, 2, 4, 6, 7] [(1, [], false, 6), (8, [], false, 6)] (by decide +kernel) rfl (by kernel_rfl) (by kernel_rfl) ?_
    refine .cons ?_ (.cons ?_ (.nil))
    · refine ⟨_, [1], _, rfl, rfl, cst hc rfl rfl rfl rfl rfl (by exact .cons rfl trivial (RowEq.cl (o_cl cD_cl _ _ _)) .nil) (by exact ⟨peqA rfl, trivial⟩) rfl rfl ?_⟩
      exact ps_can [0, 1, 2, 3, 7, 4, 5] (k0_sel (show Γ.k0 = 0 from hk) rfl) rfl rfl svq tvq (ps_ls (by decide +kernel) h1_67)
    · refine ⟨_, [], true, rfl, rfl, stepOp_pst rfl ?_ ?_⟩
      · exact trivial
      · exact ps_can [0, 1, 2, 3, 4, 5, 6] (k0_sel (show Γ.k0 = 0 from hk) rfl) rfl rfl svq tvq (ps_ls (by decide +kernel) h0_678)
  have h0_68 : PS G Try.f4.ntmps Γ (hOps (dropS 7 (Try.f4.body.getD .skip))) [0, 2, 3] true false [] 7 (lsF [0, 2, 4, 6, 8] 12) ⟨[(5, .ptr 0 0 0), (6, .ptr 2 0 0), (7, .ptr 3 0 0), (9, vi sm), (51, agl k 1), (53, agl k 1), (55, agl k 1), (10, .ptr 4 0 0), (12, .ptr 5 0 0)], [tapeRow n g at_, cpR k l, rA (k + 1) 1, rDv d, rZA, rZA]⟩ K := by
    refine xs_brT (n := 12) [0, 2, 4, 6, 8] [(1, [], false, 6), (7, [], false, 6)] (by decide +kernel) rfl (by kernel_rfl) (by kernel_rfl) ?_
    refine .cons ?_ (.cons ?_ (.nil))
    · refine ⟨_, [1], _, rfl, rfl, cst hc rfl rfl rfl rfl rfl (by exact .cons rfl trivial (RowEq.cl (o_cl cD_cl _ _ _)) .nil) (by exact ⟨peqA rfl, trivial⟩) rfl rfl ?_⟩
      exact ps_can [0, 1, 2, 3, 7, 4, 5] (k0_sel (show Γ.k0 = 0 from hk) rfl) rfl rfl svq tvq (ps_ls (by decide +kernel) h1_68)
    · refine ⟨_, [], true, rfl, rfl, stepOp_pst rfl ?_ ?_⟩
      · exact trivial
      · exact ps_can [0, 1, 2, 3, 4, 6, 5] (k0_sel (show Γ.k0 = 0 from hk) rfl) rfl rfl svq tvq (ps_ls (by decide +kernel) h0_678)
  have h0_78 : PS G Try.f4.ntmps Γ (hOps (dropS 7 (Try.f4.body.getD .skip))) [0, 2, 3] true false [] 7 (lsF [0, 2, 4, 7, 8] 12) ⟨[(5, .ptr 0 0 0), (6, .ptr 2 0 0), (7, .ptr 3 0 0), (9, vi sm), (51, agl k 1), (53, agl k 1), (55, agl k 1), (11, .ptr 4 0 0), (12, .ptr 5 0 0)], [tapeRow n g at_, cpR k l, rA (k + 1) 1, rDv d, rZA, rZA]⟩ K := by
    refine xs_brT (n := 12) [0, 2, 4, 7, 8] [(1, [], false, 6), (6, [], false, 6)] (by decide +kernel) rfl (by kernel_rfl) (by kernel_rfl) ?_
    refine .cons ?_ (.cons ?_ (.nil))
    · refine ⟨_, [1], _, rfl, rfl, cst hc rfl rfl rfl rfl rfl (by exact .cons rfl trivial (RowEq.cl (o_cl cD_cl _ _ _)) .nil) (by exact ⟨peqA rfl, trivial⟩) rfl rfl ?_⟩
      exact ps_can [0, 1, 2, 3, 7, 4, 5] (k0_sel (show Γ.k0 = 0 from hk) rfl) rfl rfl svq tvq (ps_ls (by decide +kernel) h1_78)
    · refine ⟨_, [], true, rfl, rfl, stepOp_pst rfl ?_ ?_⟩
      · exact trivial
      · exact ps_can [0, 1, 2, 3, 6, 4, 5] (k0_sel (show Γ.k0 = 0 from hk) rfl) rfl rfl svq tvq (ps_ls (by decide +kernel) h0_678)
  have h1_6 : PS G Try.f4.ntmps Γ (hOps (dropS 7 (Try.f4.body.getD .skip))) [0, 2, 3] false false [] 7 (lsF [0, 1, 2, 4, 6] 12) ⟨[(5, .ptr 0 0 0), (6, .ptr 2 0 0), (7, .ptr 3 0 0), (9, vi sm), (51, agl k 1), (53, agl k 1), (55, agl k 1), (52, agl k 4), (10, .ptr 5 0 0)], [tapeRow n g at_, cpR k l, rA (k + 1) 1, rDv d, cpR k l, rZA]⟩ K := by
    refine xs_brT (n := 12) [0, 1, 2, 4, 6] [(3, [], false, 6), (7, [], false, 6), (8, [], false, 6)] (by decide +kernel) rfl (by kernel_rfl) (by kernel_rfl) ?_
    refine .cons ?_ (.cons ?_ (.cons ?_ (.nil)))
    · refine ⟨_, [1], _, rfl, rfl, cst hc rfl rfl rfl rfl rfl (by exact .cons rfl trivial (RowEq.cl (o_cl cD_cl _ _ _)) .nil) (by exact ⟨peqA rfl, trivial⟩) rfl rfl ?_⟩
      exact ps_can [0, 1, 2, 3, 4, 7, 5] (k0_sel (show Γ.k0 = 0 from hk) rfl) rfl rfl svq tvq (ps_ls (by decide +kernel) h2_6)
    · refine ⟨_, [], true, rfl, rfl, stepOp_pst rfl ?_ ?_⟩
      · exact trivial
      · exact ps_can [0, 1, 2, 3, 4, 5, 6] (k0_sel (show Γ.k0 = 0 from hk) rfl) rfl rfl svq tvq (ps_ls (by decide +kernel) h1_67)
    · refine ⟨_, [], true, rfl, rfl, stepOp_pst rfl ?_ ?_⟩
      · exact trivial
      · exact ps_can [0, 1, 2, 3, 4, 5, 6] (k0_sel (show Γ.k0 = 0 from hk) rfl) rfl rfl svq tvq (ps_ls (by decide +kernel) h1_68)
  have h1_7 : PS G Try.f4.ntmps Γ (hOps (dropS 7 (Try.f4.body.getD .skip))) [0, 2, 3] false false [] 7 (lsF [0, 1, 2, 4, 7] 12) ⟨[(5, .ptr 0 0 0), (6, .ptr 2 0 0), (7, .ptr 3 0 0), (9, vi sm), (51, agl k 1), (53, agl k 1), (55, agl k 1), (52, agl k 4), (11, .ptr 5 0 0)], [tapeRow n g at_, cpR k l, rA (k + 1) 1, rDv d, cpR k l, rZA]⟩ K := by
    refine xs_brT (n := 12) [0, 1, 2, 4, 7] [(3, [], false, 6), (6, [], false, 6), (8, [], false, 6)] (by decide +kernel) rfl (by kernel_rfl) (by kernel_rfl) ?_
    refine .cons ?_ (.cons ?_ (.cons ?_ (.nil)))
    · refine ⟨_, [1], _, rfl, rfl, cst hc rfl rfl rfl rfl rfl (by exact .cons rfl trivial (RowEq.cl (o_cl cD_cl _ _ _)) .nil) (by exact ⟨peqA rfl, trivial⟩) rfl rfl ?_⟩
      exact ps_can [0, 1, 2, 3, 4, 7, 5] (k0_sel (show Γ.k0 = 0 from hk) rfl) rfl rfl svq tvq (ps_ls (by decide +kernel) h2_7)
    · refine ⟨_, [], true, rfl, rfl, stepOp_pst rfl ?_ ?_⟩
      · exact trivial
      · exact ps_can [0, 1, 2, 3, 4, 6, 5] (k0_sel (show Γ.k0 = 0 from hk) rfl) rfl rfl svq tvq (ps_ls (by decide +kernel) h1_67)
    · refine ⟨_, [], true, rfl, rfl, stepOp_pst rfl ?_ ?_⟩
      · exact trivial
      · exact ps_can [0, 1, 2, 3, 4, 5, 6] (k0_sel (show Γ.k0 = 0 from hk) rfl) rfl rfl svq tvq (ps_ls (by decide +kernel) h1_78)
  have h1_8 : PS G Try.f4.ntmps Γ (hOps (dropS 7 (Try.f4.body.getD .skip))) [0, 2, 3] false false [] 7 (lsF [0, 1, 2, 4, 8] 12) ⟨[(5, .ptr 0 0 0), (6, .ptr 2 0 0), (7, .ptr 3 0 0), (9, vi sm), (51, agl k 1), (53, agl k 1), (55, agl k 1), (52, agl k 4), (12, .ptr 5 0 0)], [tapeRow n g at_, cpR k l, rA (k + 1) 1, rDv d, cpR k l, rZA]⟩ K := by
    refine xs_brT (n := 12) [0, 1, 2, 4, 8] [(3, [], false, 6), (6, [], false, 6), (7, [], false, 6)] (by decide +kernel) rfl (by kernel_rfl) (by kernel_rfl) ?_
    refine .cons ?_ (.cons ?_ (.cons ?_ (.nil)))
    · refine ⟨_, [1], _, rfl, rfl, cst hc rfl rfl rfl rfl rfl (by exact .cons rfl trivial (RowEq.cl (o_cl cD_cl _ _ _)) .nil) (by exact ⟨peqA rfl, trivial⟩) rfl rfl ?_⟩
      exact ps_can [0, 1, 2, 3, 4, 7, 5] (k0_sel (show Γ.k0 = 0 from hk) rfl) rfl rfl svq tvq (ps_ls (by decide +kernel) h2_8)
    · refine ⟨_, [], true, rfl, rfl, stepOp_pst rfl ?_ ?_⟩
      · exact trivial
      · exact ps_can [0, 1, 2, 3, 4, 6, 5] (k0_sel (show Γ.k0 = 0 from hk) rfl) rfl rfl svq tvq (ps_ls (by decide +kernel) h1_68)
    · refine ⟨_, [], true, rfl, rfl, stepOp_pst rfl ?_ ?_⟩
      · exact trivial
      · exact ps_can [0, 1, 2, 3, 4, 6, 5] (k0_sel (show Γ.k0 = 0 from hk) rfl) rfl rfl svq tvq (ps_ls (by decide +kernel) h1_78)
  have h2_ : PS G Try.f4.ntmps Γ (hOps (dropS 7 (Try.f4.body.getD .skip))) [0, 2, 3] false false [] 7 (lsF [0, 1, 2, 3, 4] 12) ⟨[(5, .ptr 0 0 0), (6, .ptr 2 0 0), (7, .ptr 3 0 0), (9, vi sm), (51, agl k 1), (53, agl k 1), (55, agl k 1), (52, agl k 4), (54, agl k 5)], [tapeRow n g at_, cpR k l, rA (k + 1) 1, rDv d, cpR k l, cpR k l]⟩ K := by
    refine xs_brT (n := 12) [0, 1, 2, 3, 4] [(5, [], false, 6), (6, [], false, 6), (7, [], false, 6), (8, [], false, 6)] (by decide +kernel) rfl (by kernel_rfl) (by kernel_rfl) ?_
    refine .cons ?_ (.cons ?_ (.cons ?_ (.cons ?_ (.nil))))
    · refine ⟨_, [1], _, rfl, rfl, cst hc rfl rfl rfl rfl rfl (by exact .cons rfl trivial (RowEq.cl (o_cl cD_cl _ _ _)) .nil) (by exact ⟨peqA rfl, trivial⟩) rfl rfl ?_⟩
      exact ps_can [0, 1, 2, 3, 4, 5, 7] (k0_sel (show Γ.k0 = 0 from hk) rfl) rfl rfl svq tvq (ps_ls (by decide +kernel) h3_)
    · refine ⟨_, [], true, rfl, rfl, stepOp_pst rfl ?_ ?_⟩
      · exact trivial
      · exact ps_can [0, 1, 2, 3, 4, 5, 6] (k0_sel (show Γ.k0 = 0 from hk) rfl) rfl rfl svq tvq (ps_ls (by decide +kernel) h2_6)
    · refine ⟨_, [], true, rfl, rfl, stepOp_pst rfl ?_ ?_⟩
      · exact trivial
      · exact ps_can [0, 1, 2, 3, 4, 5, 6] (k0_sel (show Γ.k0 = 0 from hk) rfl) rfl rfl svq tvq (ps_ls (by decide +kernel) h2_7)
    · refine ⟨_, [], true, rfl, rfl, stepOp_pst rfl ?_ ?_⟩
      · exact trivial
      · exact ps_can [0, 1, 2, 3, 4, 5, 6] (k0_sel (show Γ.k0 = 0 from hk) rfl) rfl rfl svq tvq (ps_ls (by decide +kernel) h2_8)
  have h0_6 : PS G Try.f4.ntmps Γ (hOps (dropS 7 (Try.f4.body.getD .skip))) [0, 2, 3] true false [] 8 (lsF [0, 2, 4, 6] 12) ⟨[(5, .ptr 0 0 0), (6, .ptr 2 0 0), (7, .ptr 3 0 0), (9, vi sm), (51, agl k 1), (53, agl k 1), (55, agl k 1), (10, .ptr 4 0 0)], [tapeRow n g at_, cpR k l, rA (k + 1) 1, rDv d, rZA]⟩ K := by
    refine xs_brT (n := 12) [0, 2, 4, 6] [(1, [], false, 7), (7, [], false, 7), (8, [], false, 7)] (by decide +kernel) rfl (by kernel_rfl) (by kernel_rfl) ?_
    refine .cons ?_ (.cons ?_ (.cons ?_ (.nil)))
    · refine ⟨_, [1], _, rfl, rfl, cst hc rfl rfl rfl rfl rfl (by exact .cons rfl trivial (RowEq.cl (o_cl cD_cl _ _ _)) .nil) (by exact ⟨peqA rfl, trivial⟩) rfl rfl ?_⟩
      exact ps_can [0, 1, 2, 3, 6, 4] (k0_sel (show Γ.k0 = 0 from hk) rfl) rfl rfl svq tvq (ps_ls (by decide +kernel) h1_6)
    · refine ⟨_, [], true, rfl, rfl, stepOp_pst rfl ?_ ?_⟩
      · exact trivial
      · exact ps_can [0, 1, 2, 3, 4, 5] (k0_sel (show Γ.k0 = 0 from hk) rfl) rfl rfl svq tvq (ps_ls (by decide +kernel) h0_67)
    · refine ⟨_, [], true, rfl, rfl, stepOp_pst rfl ?_ ?_⟩
      · exact trivial
      · exact ps_can [0, 1, 2, 3, 4, 5] (k0_sel (show Γ.k0 = 0 from hk) rfl) rfl rfl svq tvq (ps_ls (by decide +kernel) h0_68)
  have h0_7 : PS G Try.f4.ntmps Γ (hOps (dropS 7 (Try.f4.body.getD .skip))) [0, 2, 3] true false [] 8 (lsF [0, 2, 4, 7] 12) ⟨[(5, .ptr 0 0 0), (6, .ptr 2 0 0), (7, .ptr 3 0 0), (9, vi sm), (51, agl k 1), (53, agl k 1), (55, agl k 1), (11, .ptr 4 0 0)], [tapeRow n g at_, cpR k l, rA (k + 1) 1, rDv d, rZA]⟩ K := by
    refine xs_brT (n := 12) [0, 2, 4, 7] [(1, [], false, 7), (6, [], false, 7), (8, [], false, 7)] (by decide +kernel) rfl (by kernel_rfl) (by kernel_rfl) ?_
    refine .cons ?_ (.cons ?_ (.cons ?_ (.nil)))
    · refine ⟨_, [1], _, rfl, rfl, cst hc rfl rfl rfl rfl rfl (by exact .cons rfl trivial (RowEq.cl (o_cl cD_cl _ _ _)) .nil) (by exact ⟨peqA rfl, trivial⟩) rfl rfl ?_⟩
      exact ps_can [0, 1, 2, 3, 6, 4] (k0_sel (show Γ.k0 = 0 from hk) rfl) rfl rfl svq tvq (ps_ls (by decide +kernel) h1_7)
    · refine ⟨_, [], true, rfl, rfl, stepOp_pst rfl ?_ ?_⟩
      · exact trivial
      · exact ps_can [0, 1, 2, 3, 5, 4] (k0_sel (show Γ.k0 = 0 from hk) rfl) rfl rfl svq tvq (ps_ls (by decide +kernel) h0_67)
    · refine ⟨_, [], true, rfl, rfl, stepOp_pst rfl ?_ ?_⟩
      · exact trivial
      · exact ps_can [0, 1, 2, 3, 4, 5] (k0_sel (show Γ.k0 = 0 from hk) rfl) rfl rfl svq tvq (ps_ls (by decide +kernel) h0_78)
  have h0_8 : PS G Try.f4.ntmps Γ (hOps (dropS 7 (Try.f4.body.getD .skip))) [0, 2, 3] true false [] 8 (lsF [0, 2, 4, 8] 12) ⟨[(5, .ptr 0 0 0), (6, .ptr 2 0 0), (7, .ptr 3 0 0), (9, vi sm), (51, agl k 1), (53, agl k 1), (55, agl k 1), (12, .ptr 4 0 0)], [tapeRow n g at_, cpR k l, rA (k + 1) 1, rDv d, rZA]⟩ K := by
    refine xs_brT (n := 12) [0, 2, 4, 8] [(1, [], false, 7), (6, [], false, 7), (7, [], false, 7)] (by decide +kernel) rfl (by kernel_rfl) (by kernel_rfl) ?_
    refine .cons ?_ (.cons ?_ (.cons ?_ (.nil)))
    · refine ⟨_, [1], _, rfl, rfl, cst hc rfl rfl rfl rfl rfl (by exact .cons rfl trivial (RowEq.cl (o_cl cD_cl _ _ _)) .nil) (by exact ⟨peqA rfl, trivial⟩) rfl rfl ?_⟩
      exact ps_can [0, 1, 2, 3, 6, 4] (k0_sel (show Γ.k0 = 0 from hk) rfl) rfl rfl svq tvq (ps_ls (by decide +kernel) h1_8)
    · refine ⟨_, [], true, rfl, rfl, stepOp_pst rfl ?_ ?_⟩
      · exact trivial
      · exact ps_can [0, 1, 2, 3, 5, 4] (k0_sel (show Γ.k0 = 0 from hk) rfl) rfl rfl svq tvq (ps_ls (by decide +kernel) h0_68)
    · refine ⟨_, [], true, rfl, rfl, stepOp_pst rfl ?_ ?_⟩
      · exact trivial
      · exact ps_can [0, 1, 2, 3, 5, 4] (k0_sel (show Γ.k0 = 0 from hk) rfl) rfl rfl svq tvq (ps_ls (by decide +kernel) h0_78)
  have h1_ : PS G Try.f4.ntmps Γ (hOps (dropS 7 (Try.f4.body.getD .skip))) [0, 2, 3] false false [] 8 (lsF [0, 1, 2, 4] 12) ⟨[(5, .ptr 0 0 0), (6, .ptr 2 0 0), (7, .ptr 3 0 0), (9, vi sm), (51, agl k 1), (53, agl k 1), (55, agl k 1), (52, agl k 4)], [tapeRow n g at_, cpR k l, rA (k + 1) 1, rDv d, cpR k l]⟩ K := by
    refine xs_brT (n := 12) [0, 1, 2, 4] [(3, [], false, 7), (6, [], false, 7), (7, [], false, 7), (8, [], false, 7)] (by decide +kernel) rfl (by kernel_rfl) (by kernel_rfl) ?_
    refine .cons ?_ (.cons ?_ (.cons ?_ (.cons ?_ (.nil))))
    · refine ⟨_, [1], _, rfl, rfl, cst hc rfl rfl rfl rfl rfl (by exact .cons rfl trivial (RowEq.cl (o_cl cD_cl _ _ _)) .nil) (by exact ⟨peqA rfl, trivial⟩) rfl rfl ?_⟩
      exact ps_can [0, 1, 2, 3, 4, 6] (k0_sel (show Γ.k0 = 0 from hk) rfl) rfl rfl svq tvq (ps_ls (by decide +kernel) h2_)
    · refine ⟨_, [], true, rfl, rfl, stepOp_pst rfl ?_ ?_⟩
      · exact trivial
      · exact ps_can [0, 1, 2, 3, 4, 5] (k0_sel (show Γ.k0 = 0 from hk) rfl) rfl rfl svq tvq (ps_ls (by decide +kernel) h1_6)
    · refine ⟨_, [], true, rfl, rfl, stepOp_pst rfl ?_ ?_⟩
      · exact trivial
      · exact ps_can [0, 1, 2, 3, 4, 5] (k0_sel (show Γ.k0 = 0 from hk) rfl) rfl rfl svq tvq (ps_ls (by decide +kernel) h1_7)
    · refine ⟨_, [], true, rfl, rfl, stepOp_pst rfl ?_ ?_⟩
      · exact trivial
      · exact ps_can [0, 1, 2, 3, 4, 5] (k0_sel (show Γ.k0 = 0 from hk) rfl) rfl rfl svq tvq (ps_ls (by decide +kernel) h1_8)
  have h0_ : PS G Try.f4.ntmps Γ (hOps (dropS 7 (Try.f4.body.getD .skip))) [0, 2, 3] true false [] 9 (lsF [0, 2, 4] 12) ⟨[(5, .ptr 0 0 0), (6, .ptr 2 0 0), (7, .ptr 3 0 0), (9, vi sm), (51, agl k 1), (53, agl k 1), (55, agl k 1)], [tapeRow n g at_, cpR k l, rA (k + 1) 1, rDv d]⟩ K := by
    refine xs_brT (n := 12) [0, 2, 4] [(1, [], false, 8), (6, [], false, 8), (7, [], false, 8), (8, [], false, 8)] (by decide +kernel) rfl (by kernel_rfl) (by kernel_rfl) ?_
    refine .cons ?_ (.cons ?_ (.cons ?_ (.cons ?_ (.nil))))
    · refine ⟨_, [1], _, rfl, rfl, cst hc rfl rfl rfl rfl rfl (by exact .cons rfl trivial (RowEq.cl (o_cl cD_cl _ _ _)) .nil) (by exact ⟨peqA rfl, trivial⟩) rfl rfl ?_⟩
      exact ps_can [0, 1, 2, 3, 5] (k0_sel (show Γ.k0 = 0 from hk) rfl) rfl rfl svq tvq (ps_ls (by decide +kernel) h1_)
    · refine ⟨_, [], true, rfl, rfl, stepOp_pst rfl ?_ ?_⟩
      · exact trivial
      · exact ps_can [0, 1, 2, 3, 4] (k0_sel (show Γ.k0 = 0 from hk) rfl) rfl rfl svq tvq (ps_ls (by decide +kernel) h0_6)
    · refine ⟨_, [], true, rfl, rfl, stepOp_pst rfl ?_ ?_⟩
      · exact trivial
      · exact ps_can [0, 1, 2, 3, 4] (k0_sel (show Γ.k0 = 0 from hk) rfl) rfl rfl svq tvq (ps_ls (by decide +kernel) h0_7)
    · refine ⟨_, [], true, rfl, rfl, stepOp_pst rfl ?_ ?_⟩
      · exact trivial
      · exact ps_can [0, 1, 2, 3, 4] (k0_sel (show Γ.k0 = 0 from hk) rfl) rfl rfl svq tvq (ps_ls (by decide +kernel) h0_8)
  refine xs_startH (id := 11) [0, 2, 3] false [.take 0, .take 2, .take 4] 9 rfl (by kernel_rfl) ?_
  refine xs rfl ?_ ?_
  · repeat' (first | exact trivial | ((with_reducible (show AllP (_ :: _))); refine And.intro ?_ ?_) | exact qq | fail)
  exact ps_can [0, 1, 2, 3] (k0_sel (show Γ.k0 = 0 from hk) rfl) rfl rfl svq tvq (ps_ls (by decide +kernel) h0_)
/-- the last definition named r2 -/
def lastR2 (l : List Df) : Df := l.foldl (fun a x => if x.nm.toList = n_r2.toList then x else a) dD
theorem lastR2_snoc (l : List Df) (x : Df) : lastR2 (l ++ [x]) = if x.nm.toList = n_r2.toList then x else lastR2 l := by simp [lastR2]
theorem lastR2_in {l : List Df} (h : ∃ x, x ∈ l ∧ x.nm.toList = n_r2.toList) : lastR2 l ∈ l ∧ (lastR2 l).nm.toList = n_r2.toList := by
  have key : ∀ (l : List Df) (a : Df), (∃ x, x ∈ l ∧ x.nm.toList = n_r2.toList) ∨ a.nm.toList = n_r2.toList → (l.foldl (fun a x => if x.nm.toList = n_r2.toList then x else a) a ∈ l ∨ l.foldl (fun a x => if x.nm.toList = n_r2.toList then x else a) a = a) ∧ (l.foldl (fun a x => if x.nm.toList = n_r2.toList then x else a) a).nm.toList = n_r2.toList := by
    intro l
    induction l with
    | nil =>
      intro a h
      rcases h with ⟨x, hx, _⟩ | h
      · cases hx
      · exact ⟨.inr rfl, h⟩
    | cons y l ih =>
      intro a h
      rw [List.foldl_cons]
      by_cases hy : y.nm.toList = n_r2.toList
      · rw [if_pos hy]
        obtain ⟨h1, h2⟩ := ih y (.inr hy)
        exact ⟨.inl (by rcases h1 with h1 | h1
                        · exact List.mem_cons_of_mem _ h1
                        · rw [h1]; exact List.mem_cons_self ..), h2⟩
      · rw [if_neg hy]
        obtain ⟨h1, h2⟩ := ih a (by
          rcases h with ⟨x, hx, hn⟩ | h
          · rcases List.mem_cons.1 hx with rfl | hx
            · exact absurd hn hy
            · exact .inl ⟨x, hx, hn⟩
          · exact .inr h)
        exact ⟨h1.imp (List.mem_cons_of_mem _) id, h2⟩
  have hd : dD.nm.toList ≠ n_r2.toList := by decide +kernel
  obtain ⟨h1, h2⟩ := key l dD (.inl h)
  refine ⟨h1.resolve_right fun e => ?_, h2⟩
  rw [e] at h2
  exact hd h2
theorem r2_tab : ∀ x, x ∈ tabL → x.1.toList = n_r2.toList → x = (n_r2, 3, tM) := by
  intro x hx h
  have key : ∀ x, x ∈ tabL → x.1.toList = n_r2.toList → x.2 = ((3 : Int), tM) := by decide +kernel
  obtain ⟨a, b⟩ := x
  have h2 : b = ((3 : Int), tM) := key (a, b) hx h
  have h3 : a = n_r2 := ba_eq h
  rw [h2, h3]
theorem defS3 {d : Df} (h : d.kind = 3) : defS d = (typS d.ty && (dayS d.day && (decide (d.ne = 0) && (validS 32 d.body && (decide (d.mode = 0) && decide (d.sn = 0 ∧ d.sd = 0)))))) := by
  unfold defS
  rw [if_neg (by rw [h]; decide), if_neg (by rw [h]; decide), if_neg (by rw [h]; decide), if_pos h]
theorem err_dup {l : List Df} {d x : Df} (hd : d ∈ l) (h : collS d x = true) : errD (l ++ [x]) l x = 8 := by
  unfold errD
  rw [if_pos (List.any_eq_true.2 ⟨d, hd, h⟩)]
section
variable {hh : Nat} {l : List Df} {d : Df} (hA : AGood hh l) (hd : d ∈ l) (hn : d.nm.toList = n_r2.toList)
include hA hd hn
theorem r2_is : d.nm = n_r2 ∧ d.kind = 3 ∧ d.ty = tM := by
  have := r2_tab _ (hA.all d hd).tab hn
  simp only [Prod.mk.injEq] at this
  exact this
theorem r2_past {x : Df} (hx : x.nm = n_r2) : ∀ y, y ∈ [x] → isNm y = true → ∀ p, p ∈ l → p.kind = 5 → y.nm.toList ≠ p.nm.toList := by
  intro y hy _ p hp hk
  obtain rfl : y = x := by simpa using hy
  rw [hx, ← hn]
  obtain ⟨_, hk3, _⟩ := r2_is hA hd hn
  exact AGood.past hA.all d hd (by simp [isNm, hk3]) p hp hk
/-- the problems of such an agreement -/
theorem chk_one {x : Df} {mn : ByteArray} (h32 : hh ≤ 32) (hnm : nameS mn = true) (hx : x.nm = n_r2) (hdf : defS x = true) : chkL mn (l ++ [x]) = (if errD (l ++ [x]) l x = 0 then [] else [((l.length : Int), errD (l ++ [x]) l x)], 0) := by
  unfold chkL
  have hX : ∀ y, y ∈ [x] → nameS y.nm = true ∧ defS y = true := by
    intro y hy
    obtain rfl : y = x := by simpa using hy
    exact ⟨by rw [hx]; decide +kernel, hdf⟩
  rw [if_pos (agrX hA hnm (by simp) hX)]
  have e : (l ++ [x]).length = l.length + 1 := by simp
  rw [e]
  have h1 : lF dD (l ++ [x]) l.length = x := lF_at
  have h2 : (l ++ [x]).take l.length = l := by simp
  show (probS (l ++ [x]) (l.length + 1), (0 : Int)) = _
  unfold probS
  rw [h1, h2, probX hA h32 (r2_past hA hd hn hx)]
  by_cases h0 : errD (l ++ [x]) l x = 0
  · rw [if_pos h0, if_pos h0]
  · rw [if_neg h0, if_neg h0]; rfl
/-- the same day: a duplicate -/
theorem chk_same {mn : ByteArray} (h32 : hh ≤ 32) (hnm : nameS mn = true) : chkL mn (l ++ [d]) = ([((l.length : Int), 8)], 0) := by
  obtain ⟨e1, e2, e3⟩ := r2_is hA hd hn
  have hc : collS d d = true := by unfold collS; simp [e2]
  rw [chk_one hA hd hn h32 hnm e1 (hA.all d hd).df, err_dup hd hc]; rfl
/-- another type: a duplicate -/
theorem chk_other {mn : ByteArray} {x : Df} (h32 : hh ≤ 32) (hnm : nameS mn = true) (hx : x.nm = n_r2) (hk : x.kind = 3) (ht : x.ty = tH) (hdf : defS x = true) : chkL mn (l ++ [x]) = ([((l.length : Int), 8)], 0) := by
  obtain ⟨e1, e2, e3⟩ := r2_is hA hd hn
  have hc : collS d x = true := by
    unfold collS
    rw [e1, hx, e2, hk, if_neg (by decide)]
    unfold tyD
    rw [e2, hk, e3, ht]
    generalize decide (d.day = x.day) = q
    cases q <;> decide +kernel
  rw [chk_one hA hd hn h32 hnm hx hdf, err_dup hd hc]; rfl
/-- another day: no problem -/
theorem chk_later {mn : ByteArray} {day : Int} (h32 : hh ≤ 32) (hnm : nameS mn = true) (h1 : 20460 ≤ day) (h2 : day ≤ 21459) : chkL mn (l ++ [{d with day := day}]) = ([], 0) := by
  obtain ⟨e1, e2, e3⟩ := r2_is hA hd hn
  have hg := hA.all d hd
  have hdf : defS {d with day := day} = true := by
    have h3 := hg.df
    rw [defS3 e2] at h3
    rw [defS3 (d := {d with day := day}) e2]
    simp only [Bool.and_eq_true] at h3 ⊢
    exact ⟨h3.1, by unfold dayS; exact decide_eq_true ⟨by omega, by omega⟩, h3.2.2⟩
  rw [chk_one hA hd hn (x := {d with day := day}) h32 hnm e1 hdf]
  have h0 : errD (l ++ [{d with day := day}]) l {d with day := day} = 0 := by
    unfold errD
    have hany : l.any (fun b => collS b {d with day := day}) = false := by
      rw [Bool.eq_false_iff]
      intro hc
      obtain ⟨b, hb, h3⟩ := List.any_eq_true.1 hc
      have hbg := hA.all b hb
      rw [coll_no (b := {d with day := day}) hbg.tab hg.tab (fun ⟨n1, n2⟩ => ?_) (fun h => day0 hbg.df (.inl h)) (fun h => absurd (show d.kind = 1 from h) (by rw [e2]; decide)) (fun h => day0 hbg.df (.inr h)) (fun h => absurd (show d.kind = 5 from h) (by rw [e2]; decide))] at h3
      · cases h3
      · have hb2 : b.nm.toList = n_r2.toList := n1.trans hn
        obtain ⟨_, k3, _⟩ := r2_is hA hb hb2
        have := hbg.dy k3
        have n2 : b.day = day := n2
        omega
    rw [hany, if_neg (by simp), if_neg (by show ¬ d.kind = 5; rw [e2]; decide), if_pos (by left; exact e2)]
    have hE : Env ((l ++ [{d with day := day}]).filter isNm) ((l ++ [{d with day := day}]).filter isSc) ((l ++ [{d with day := day}]).filter isPa) := by
      rw [List.filter_append, List.filter_append, List.filter_append]; exact hA.env.app _ _ _
    exact body_good (d := {d with day := day}) hE (hg.wt (.inl e2)) h32 rfl
  rw [if_pos h0]
abbrev othD (d : Df) (day : Int) (e : Ex) : Df := {d with day := day, ty := tH, body := e}
theorem other_df {day : Int} {e : Ex} {h : Nat} (h1 : 20460 ≤ day) (h2 : day ≤ 21459) (he : EOk h tH e) (h32 : h ≤ 32) : defS (othD d day e) = true ∧ BdD (othD d day e) := by
  obtain ⟨e1, e2, e3⟩ := r2_is hA hd hn
  have hg := hA.all d hd
  have h3 := hg.df
  rw [defS3 e2] at h3
  rw [defS3 (d := othD d day e) e2]
  simp only [Bool.and_eq_true] at h3 ⊢
  exact ⟨⟨by show typS tH = true; decide +kernel, by unfold dayS; exact decide_eq_true ⟨by omega, by omega⟩, h3.2.2.1, he.vl 32 h32, h3.2.2.2.2⟩, ⟨hg.bd.nm, hg.bd.ef, hg.bd.ne, he.bd, hg.bd.st⟩⟩
end
theorem later_bd {hh : Nat} {l : List Df} {d : Df} (hA : AGood hh l) (hd : d ∈ l) {day : Int} : BdD {d with day := day} := ⟨(hA.all d hd).bd.nm, (hA.all d hd).bd.ef, (hA.all d hd).bd.ne, (hA.all d hd).bd.body, (hA.all d hd).bd.st⟩
theorem has_r2 {hh : Nat} {l : List Df} (hA : AGood hh l) : ∃ x, x ∈ l ∧ x.nm.toList = n_r2.toList := by
  have := hA.has n_r2 (by unfold neds; repeat' (first | exact List.Mem.head _ | refine List.Mem.tail _ ?_))
  obtain ⟨x, hx, he⟩ := List.mem_map.1 this
  exact ⟨x, hx, by rw [he]⟩
theorem nameS_metal2 : nameS n_metal = true := by decide +kernel
theorem argAm {mem : List Row} {L : List Nat} {l k : Nat} {D : List Df} (hr : rowAt mem l = some (oRow cD 21 k (lF dD D))) (hk : D.length = k) (hL : l ∈ L) : ArgOk mem L (.agg 2 (nthP [vs n_metal, .lsl l 0 k])) (vA n_metal D) := argAgr (by have := arg_o (s := .own) (L := L) cD_cl hr trivial hL; rw [← hk] at this ⊢; exact this)
theorem rDv_eq {τ : Nat → Option Nat} {d : Df} {f : Nat → Nat → PV} (h : ∀ b, b < 21 → PEq ((f 0 b).ren τ) (nthP (cD d) b)) : RowEq (Row.ren τ ⟨.own, true, 1, 21, f⟩) (rDv d) := ⟨rfl, rfl, Nat.le_refl _, fun i hi j hj => by
  have hi : i < 1 := hi
  obtain rfl : i = 0 := by omega
  exact h j hj⟩
set_option maxHeartbeats 8000000 in
theorem versions_c (n : Nat) (g : Nat → Int) (from_ : Int) (hn : n ≤ 9223372036854775807) : PureC G.P 4 [.vsl n 1 (tI g), vi from_] (fun r => r = vb true) := by
  refine pure_of (G := G.toPg) (fn := Try.f4) Try.func4 rfl rfl rfl ?_; intro Γ hk
  repeat' (first | refine xo 4000 rfl ?_ ?_ | refine xw 4000 rfl ?_ ?_ | refine xk 4000 rfl ?_ ?_ | exact trivial | ((with_reducible (show AllP (_ :: _))); refine And.intro ?_ ?_) | refine xs rfl ?_ ?_ | refine xs_done ?_ | refine xs_last rfl rfl (stepOp_pst rfl ?_ ?_) | refine pcond_t rfl ?_ | refine pcond_f rfl ?_ | refine kround_exit ?_ | refine kround_ret ?_ | refine kround_next ?_ | refine kloop_ret ?_ | refine kloop_exit ?_ | refine kcut_ret ?_ | refine kcut_exit ?_ | refine xo0 4000 rfl ?_ ?_ | refine xw0 4000 rfl ?_ ?_ | exact qq | fail)
  refine pop_rowsc [] rfl rfl rfl rfl rfl rfl .nil (new_c n g) (by exact ⟨PEq.refl _, trivial⟩) ?_
  rintro r rows ⟨rfl, rfl⟩
  refine ⟨_, _, rfl, ⟨tape_cl _ _ _, trivial⟩, rfl, ?_⟩
  repeat' (first | refine xo 4000 rfl ?_ ?_ | refine xw 4000 rfl ?_ ?_ | refine xk 4000 rfl ?_ ?_ | exact trivial | ((with_reducible (show AllP (_ :: _))); refine And.intro ?_ ?_) | refine xs rfl ?_ ?_ | refine xs_done ?_ | refine xs_last rfl rfl (stepOp_pst rfl ?_ ?_) | refine pcond_t rfl ?_ | refine pcond_f rfl ?_ | refine kround_exit ?_ | refine kround_ret ?_ | refine kround_next ?_ | refine kloop_ret ?_ | refine kloop_exit ?_ | refine kcut_ret ?_ | refine kcut_exit ?_ | refine xo0 4000 rfl ?_ ?_ | refine xw0 4000 rfl ?_ ?_ | exact qq | fail)
  refine pop_rowsd [0] rfl rfl rfl rfl rfl rfl (by exact .cons rfl trivial (RowEq.cl (tape_cl _ _ _)) .nil) (agreement4_r 2 (by omega) false n g 0 hn (by omega) (by omega)) (by exact ⟨PEq.refl _, PEq.refl _, PEq.refl _, trivial⟩) ?_
  rintro r rows ⟨at_, k, l, b1, b2, hlk, hA, rfl, rfl⟩
  refine ⟨[tapeRow n g at_, rA (k + 1) 2, oRow cD 21 (k + 1) (lF dD l)], _, .agg 2 (nthP [vs n_metal, .lsl 2 0 (k + 1)]), ⟨RowEq.cl (tape_cl _ _ _), rA_eq rfl, RowEq.cl (o_cl cD_cl _ _ _), trivial⟩, rfl, peqA rfl, ?_⟩
  have hk30 := hA.l1
  repeat' (first | refine xo 4000 rfl ?_ ?_ | refine xw 4000 rfl ?_ ?_ | refine xk 4000 rfl ?_ ?_ | exact trivial | ((with_reducible (show AllP (_ :: _))); refine And.intro ?_ ?_) | refine xs rfl ?_ ?_ | refine xs_done ?_ | refine xs_last rfl rfl (stepOp_pst rfl ?_ ?_) | refine pcond_t rfl ?_ | refine pcond_f rfl ?_ | refine kround_exit ?_ | refine kround_ret ?_ | refine kround_next ?_ | refine kloop_ret ?_ | refine kloop_exit ?_ | refine kcut_ret ?_ | refine kcut_exit ?_ | refine xo0 4000 rfl ?_ ?_ | refine xw0 4000 rfl ?_ ?_ | exact qq | fail)
  refine pcan (st' := ⟨[(1, vi from_), (5, .ptr 0 0 0), (6, .ptr 2 0 0), (7, .ptr 3 0 0), (8, vi 0)], [tapeRow n g at_, oRow cD 21 (k + 1) (lF dD l), rA (k + 1) 1, rDv dD]⟩) (can_rowsv [0, 2, 3, 4] (k0_sel hk rfl) rfl (.cons rfl (RowEq.cl (tape_cl _ _ _)) (.cons rfl (RowEq.cl (o_cl cD_cl _ _ _)) (.cons rfl (rA_eq rfl) (.cons rfl (rDv_eq fun b hb => by rcases split21 hb with rfl | rfl | rfl | rfl | rfl | rfl | rfl | rfl | rfl | rfl | rfl | rfl | rfl | rfl | rfl | rfl | rfl | rfl | rfl | rfl | rfl <;> first | exact PEq.refl _ | exact peq_nil) .nil)))) tmq) ?_
  refine ploop (fun q st => ∃ i : Nat, i ≤ k + 1 ∧ q = k + 1 - i ∧ st = ⟨[(1, vi from_), (5, .ptr 0 0 0), (6, .ptr 2 0 0), (7, .ptr 3 0 0), (8, vi i)], [tapeRow n g at_, oRow cD 21 (k + 1) (lF dD l), rA (k + 1) 1, rDv (lastR2 (l.take i))]⟩) (k + 1) ⟨0, by omega, rfl, rfl⟩ ?_
  rintro _ _ ⟨i, hi, rfl, rfl⟩
  repeat' (first | refine xo 4000 rfl ?_ ?_ | refine xw 4000 rfl ?_ ?_ | refine xk 4000 rfl ?_ ?_ | exact trivial | ((with_reducible (show AllP (_ :: _))); refine And.intro ?_ ?_) | refine xs rfl ?_ ?_ | refine xs_done ?_ | refine xs_last rfl rfl (stepOp_pst rfl ?_ ?_) | refine pcond_t rfl ?_ | refine pcond_f rfl ?_ | refine kround_exit ?_ | refine kround_ret ?_ | refine kround_next ?_ | refine kloop_ret ?_ | refine kloop_exit ?_ | refine kcut_ret ?_ | refine kcut_exit ?_ | refine xo0 4000 rfl ?_ ?_ | refine xw0 4000 rfl ?_ ?_ | exact qq | fail)
  refine pcond rfl ?_ ?_ <;> intro hc <;> simp at hc
  · have hi2 : i < l.length := by omega
    have hwi : IntKind.i64.wrap ((i : Int) + 1) = ((i + 1 : Nat) : Int) := w64 (by omega) (by omega)
    have i0 : 0 + (i : Int).toNat = i := by omega
    have hsn : lastR2 (l.take (i + 1)) = if (lF dD l i).nm.toList = n_r2.toList then lF dD l i else lastR2 (l.take i) := by rw [take_snoc (d := dD) hi2, lastR2_snoc]
    repeat' (first | refine xo 4000 rfl ?_ ?_ | refine xw 4000 rfl ?_ ?_ | refine xk 4000 rfl ?_ ?_ | exact trivial | ((with_reducible (show AllP (_ :: _))); refine And.intro ?_ ?_) | refine xs rfl ?_ ?_ | refine xs_done ?_ | refine xs_last rfl rfl (stepOp_pst rfl ?_ ?_) | refine pcond_t rfl ?_ | refine pcond_f rfl ?_ | refine kround_exit ?_ | refine kround_ret ?_ | refine kround_next ?_ | refine kloop_ret ?_ | refine kloop_exit ?_ | refine kcut_ret ?_ | refine kcut_exit ?_ | refine xo0 4000 rfl ?_ ?_ | refine xw0 4000 rfl ?_ ?_ | exact qq | fail)
    refine pcond (b := decide ((lF dD l i).nm.toList = n_r2.toList)) ?_ ?_ ?_
    · refine eqB ?_
      rw [i0, Bool.eq_iff_iff]
      simp
    · intro h
      have h := of_decide_eq_true h
      repeat' (first | refine xo 4000 rfl ?_ ?_ | refine xw 4000 rfl ?_ ?_ | refine xk 4000 rfl ?_ ?_ | exact trivial | ((with_reducible (show AllP (_ :: _))); refine And.intro ?_ ?_) | refine xs rfl ?_ ?_ | refine xs_done ?_ | refine xs_last rfl rfl (stepOp_pst rfl ?_ ?_) | refine pcond_t rfl ?_ | refine pcond_f rfl ?_ | refine kround_exit ?_ | refine kround_ret ?_ | refine kround_next ?_ | refine kloop_ret ?_ | refine kloop_exit ?_ | refine kcut_ret ?_ | refine kcut_exit ?_ | refine xo0 4000 rfl ?_ ?_ | refine xw0 4000 rfl ?_ ?_ | exact qq | fail)
      refine xdone ?_
      rw [hwi]
      exact kloop_next (st' := ⟨[(1, vi from_), (5, .ptr 0 0 0), (6, .ptr 2 0 0), (7, .ptr 3 0 0), (8, vi ((i + 1 : Nat) : Int))], [tapeRow n g at_, oRow cD 21 (k + 1) (lF dD l), rA (k + 1) 1, rDv (lastR2 (l.take (i + 1)))]⟩) (k + 1 - (i + 1)) (can_rowsv [0, 1, 2, 3] (k0_sel hk rfl) rfl (.cons rfl (RowEq.cl (tape_cl _ _ _)) (.cons rfl (RowEq.cl (o_cl cD_cl _ _ _)) (.cons rfl (rA_eq rfl) (.cons rfl (by rw [hsn, if_pos h, i0]; exact rDv_eq fun b hb => by rcases split21 hb with rfl | rfl | rfl | rfl | rfl | rfl | rfl | rfl | rfl | rfl | rfl | rfl | rfl | rfl | rfl | rfl | rfl | rfl | rfl | rfl | rfl <;> exact PEq.refl _) .nil)))) tmq) (by omega) ⟨i + 1, by omega, rfl, rfl⟩
    · intro h
      have h := of_decide_eq_false h
      repeat' (first | refine xo 4000 rfl ?_ ?_ | refine xw 4000 rfl ?_ ?_ | refine xk 4000 rfl ?_ ?_ | exact trivial | ((with_reducible (show AllP (_ :: _))); refine And.intro ?_ ?_) | refine xs rfl ?_ ?_ | refine xs_done ?_ | refine xs_last rfl rfl (stepOp_pst rfl ?_ ?_) | refine pcond_t rfl ?_ | refine pcond_f rfl ?_ | refine kround_exit ?_ | refine kround_ret ?_ | refine kround_next ?_ | refine kloop_ret ?_ | refine kloop_exit ?_ | refine kcut_ret ?_ | refine kcut_exit ?_ | refine xo0 4000 rfl ?_ ?_ | refine xw0 4000 rfl ?_ ?_ | exact qq | fail)
      refine xdone ?_
      rw [hwi]
      exact kloop_next (st' := ⟨[(1, vi from_), (5, .ptr 0 0 0), (6, .ptr 2 0 0), (7, .ptr 3 0 0), (8, vi ((i + 1 : Nat) : Int))], [tapeRow n g at_, oRow cD 21 (k + 1) (lF dD l), rA (k + 1) 1, rDv (lastR2 (l.take (i + 1)))]⟩) (k + 1 - (i + 1)) (can_rowsv [0, 1, 2, 3] (k0_sel hk rfl) rfl (.cons rfl (RowEq.cl (tape_cl _ _ _)) (.cons rfl (RowEq.cl (o_cl cD_cl _ _ _)) (.cons rfl (rA_eq rfl) (.cons rfl (by rw [hsn, if_neg h]; exact RowEq.cl (rDv_cl _)) .nil)))) tmq) (by omega) ⟨i + 1, by omega, rfl, rfl⟩
  · obtain rfl : i = k + 1 := by omega
    have e1 : l.take (k + 1) = l := by rw [← hlk, List.take_length]
    rw [e1]
    obtain ⟨hd, hdn⟩ := lastR2_in (has_r2 hA)
    generalize lastR2 l = d at hd hdn
    have m0 := Int.emod_nonneg from_ (show (1000 : Int) ≠ 0 by decide)
    have m1 := Int.emod_lt_of_pos from_ (show (0 : Int) < 1000 by decide)
    have hwd : IntKind.i64.wrap (20460 + from_ % 1000) = 20460 + from_ % 1000 := w64 (by omega) (by omega)
    have hday1 : 20460 ≤ 20460 + from_ % 1000 := by omega
    have hday2 : 20460 + from_ % 1000 ≤ 21459 := by omega
    repeat' (first | refine xo 4000 rfl ?_ ?_ | refine xw 4000 rfl ?_ ?_ | refine xk 4000 rfl ?_ ?_ | exact trivial | ((with_reducible (show AllP (_ :: _))); refine And.intro ?_ ?_) | refine xs rfl ?_ ?_ | refine xs_done ?_ | refine xs_last rfl rfl (stepOp_pst rfl ?_ ?_) | refine xs_start (id := 22) true [.take 0, .take 1, .take 2, .take 3, .take 4, .take 5, .take 6, .take 7, .take 8, .take 9, .take 10, .take 11, .take 12, .take 13, .take 14, .take 15, .take 16, .take 17, .take 18, .take 19, .take 20, .take 21, .take 22, .take 23, .take 24, .take 25, .take 26, .take 27, .take 28, .take 29, .take 30, .take 31, .take 32, .take 33, .take 34, .take 35, .take 36, .take 37, .take 38, .take 39, .take 40, .take 41, .take 42, .one 43, .take 44, .take 45] 0 rfl rfl (by kernel_rfl) ?_ | refine pop_callv rfl rfl rfl rfl rfl (mod_c from_ 1000 (by decide) (by decide)) rfl rfl rfl ?_ | refine xs_call rfl rfl rfl rfl rfl rfl (mod_c from_ 1000 (by decide) (by decide)) rfl rfl rfl ?_ | refine xs_one (ch := []) rfl rfl rfl (pst_callv rfl rfl rfl rfl rfl (mod_c from_ 1000 (by decide) (by decide)) rfl rfl rfl ?_) | refine pop_callgv rfl rfl rfl rfl rfl rfl (fun _ => mod_c from_ 1000 (by decide) (by decide)) (by first | exact fun h => ⟨h, trivial⟩ | exact fun _ => trivial | exact fun h => ⟨h, h, trivial⟩) rfl rfl rfl ?_ | refine xs_one (ch := []) rfl rfl rfl (pst_callgv rfl rfl rfl rfl rfl rfl (fun _ => mod_c from_ 1000 (by decide) (by decide)) (by first | exact fun h => ⟨h, trivial⟩ | exact fun _ => trivial | exact fun h => ⟨h, h, trivial⟩) rfl rfl rfl ?_) | refine pcond_t rfl ?_ | refine pcond_f rfl ?_ | refine kround_exit ?_ | refine kround_ret ?_ | refine kround_next ?_ | refine kloop_ret ?_ | refine kloop_exit ?_ | refine kcut_ret ?_ | refine kcut_exit ?_ | refine xo0 4000 rfl ?_ ?_ | refine xw0 4000 rfl ?_ ?_ | exact qq | fail)
    rw [hwd]
    generalize 20460 + from_ % 1000 = D at hday1 hday2
    refine pcan (st' := ⟨[(5, .ptr 0 0 0), (6, .ptr 2 0 0), (7, .ptr 3 0 0), (9, vi d.day)], [tapeRow n g at_, cpR k l, rA (k + 1) 1, rDv {d with day := D}]⟩) (can_rowsv [0, 1, 2, 3] (k0_sel hk rfl) rfl (.cons rfl (RowEq.cl (tape_cl _ _ _)) (.cons rfl (RowEq.cl (o_cl cD_cl _ _ _)) (.cons rfl (rA_eq rfl) (.cons rfl (rDv_eq fun b hb => by rcases split21 hb with rfl | rfl | rfl | rfl | rfl | rfl | rfl | rfl | rfl | rfl | rfl | rfl | rfl | rfl | rfl | rfl | rfl | rfl | rfl | rfl | rfl <;> exact PEq.refl _) .nil)))) tmq) ?_
    refine reg11 n g at_ k l {d with day := D} d.day hlk (by omega) Γ hk _ ?_
    intro st hcan
    refine kseq_normal (pcan hcan ?_)
    have hX := expr_t 1 (by omega) tH (by simp [tys5]) 1
    have h0n : (0 : Int) ≤ n := by omega
    repeat' (first | refine xo 4000 rfl ?_ ?_ | refine xw 4000 rfl ?_ ?_ | refine xk 4000 rfl ?_ ?_ | exact trivial | ((with_reducible (show AllP (_ :: _))); refine And.intro ?_ ?_) | refine xs rfl ?_ ?_ | refine xs_done ?_ | refine xs_last rfl rfl (stepOp_pst rfl ?_ ?_) | exact ⟨Nat.le_refl _, (by rw [hk]; exact Nat.le_of_ble_eq_true rfl), Nat.le_of_eq (Nat.zero_add _), (show (_ : Nat) * 216 ≤ 140737488355328 from by omega), (show (_ : Nat) ≤ 9223372036854775807 from by omega)⟩ | (refine pop_tap (G := G) rfl rfl rfl rfl rfl rfl rfl rfl (fun _ => rfl) (hX) hn (by assumption) (by assumption) rfl rfl ?_; rintro at_ _ b1 b2 ⟨e, rfl, he⟩) | (refine xs_one (ch := [_]) rfl rfl rfl (pst_tap (G := G) rfl rfl rfl rfl rfl rfl rfl rfl (fun _ => rfl) (hX) hn (by assumption) (by assumption) rfl rfl ?_); rintro at_ _ b1 b2 ⟨e, rfl, he⟩) | (refine ⟨_, [_], _, rfl, rfl, pst_tap (G := G) rfl rfl rfl rfl rfl rfl rfl rfl (fun _ => rfl) (hX) hn (by assumption) (by assumption) rfl rfl ?_⟩; rintro at_ _ b1 b2 ⟨e, rfl, he⟩) | refine pcond_t rfl ?_ | refine pcond_f rfl ?_ | refine kround_exit ?_ | refine kround_ret ?_ | refine kround_next ?_ | refine kloop_ret ?_ | refine kloop_exit ?_ | refine kcut_ret ?_ | refine kcut_exit ?_ | refine xo0 4000 rfl ?_ ?_ | refine xw0 4000 rfl ?_ ?_ | exact qq | fail)
    have hb1 : ∀ x, x ∈ l ++ [{d with day := D}] → BdD x := fun x hx => by
      rcases List.mem_append.1 hx with h | h
      · exact (hA.all x h).bd
      · obtain rfl : x = {d with day := D} := by simpa using h
        exact later_bd hA hd
    have ho := other_df hA hd hdn hday1 hday2 he (by omega)
    have hb2 : ∀ x, x ∈ l ++ [othD d D e] → BdD x := fun x hx => by
      rcases List.mem_append.1 hx with h | h
      · exact (hA.all x h).bd
      · obtain rfl : x = othD d D e := by simpa using h
        exact ho.2
    have hb3 : ∀ x, x ∈ l ++ [d] → BdD x := fun x hx => by
      rcases List.mem_append.1 hx with h | h
      · exact (hA.all x h).bd
      · obtain rfl : x = d := by simpa using h
        exact (hA.all x hd).bd
    have f1 : PureF G.P 8 [vA n_metal (l ++ [{d with day := D}])] (fun r => r = .tup 2 (nthP [vPr [], vi 0])) := (check_f n_metal _ (by decide) hb1).mono (by rintro r rfl; rw [chk_later hA hd hdn (by omega) nameS_metal2 hday1 hday2])
    have f2 : PureF G.P 8 [vA n_metal (l ++ [othD d D e])] (fun r => r = .tup 2 (nthP [vPr [((l.length : Int), 8)], vi 0])) := (check_f n_metal _ (by decide) hb2).mono (by rintro r rfl; rw [chk_other hA hd hdn (x := othD d D e) (by omega) nameS_metal2 (r2_is hA hd hdn).1 (r2_is hA hd hdn).2.1 rfl ho.1])
    have f3 : PureF G.P 8 [vA n_metal (l ++ [d])] (fun r => r = .tup 2 (nthP [vPr [((l.length : Int), 8)], vi 0])) := (check_f n_metal _ (by decide) hb3).mono (by rintro r rfl; rw [chk_same hA hd hdn (by omega) nameS_metal2])
    refine ocan2 (st' := ⟨[(6, .ptr 7 0 0), (10, .ptr 3 0 0), (11, .ptr 4 0 0), (12, .ptr 5 0 0), (87, agl (k + 1) 0)], [vRow cD 21 (k + 1 + 1) (lF dD (l ++ [{d with day := D}])), vRow cD 21 (k + 1 + 1) (lF dD (l ++ [othD d D e])), vRow cD 21 (k + 1 + 1) (lF dD (l ++ [d])), rA (k + 1 + 1) 0, rA (k + 1 + 1) 1, rA (k + 1 + 1) 2, cpR k l, rA (k + 1) 6]⟩) (can_rowsv [11, 14, 16, 7, 8, 9, 1, 2] (k0_sel (show Γ.k0 = 0 from hk) rfl) rfl (.cons rfl (app_l cD_cl hlk rfl rfl) (.cons rfl (app_l cD_cl hlk rfl rfl) (.cons rfl (app_l cD_cl hlk rfl rfl) (.cons rfl rqq (.cons rfl rqq (.cons rfl rqq (.cons rfl (RowEq.cl (o_cl cD_cl _ _ _)) (.cons rfl (rA_eq rfl) .nil)))))))) (by exact ⟨PEq.refl _, PEq.refl _, PEq.refl _, PEq.refl _, peqA rfl, trivial⟩)) ?_
    refine pop_callF [0] rfl rfl rfl rfl rfl f1 ⟨argAm rfl (by simp [hlk]) (List.Mem.head _), trivial⟩ ?_
    rintro _ rfl
    repeat' (first | refine xo 4000 rfl ?_ ?_ | refine xw 4000 rfl ?_ ?_ | refine xk 4000 rfl ?_ ?_ | exact trivial | ((with_reducible (show AllP (_ :: _))); refine And.intro ?_ ?_) | refine xs rfl ?_ ?_ | refine xs_done ?_ | refine xs_last rfl rfl (stepOp_pst rfl ?_ ?_) | refine pcond_t rfl ?_ | refine pcond_f rfl ?_ | refine kround_exit ?_ | refine kround_ret ?_ | refine kround_next ?_ | refine kloop_ret ?_ | refine kloop_exit ?_ | refine kcut_ret ?_ | refine kcut_exit ?_ | refine xo0 4000 rfl ?_ ?_ | refine xw0 4000 rfl ?_ ?_ | exact qq | fail)
    refine pop_callF [1] rfl rfl rfl rfl rfl f2 ⟨argAm rfl (by simp [hlk]) (List.Mem.head _), trivial⟩ ?_
    rintro _ rfl
    repeat' (first | refine xo 4000 rfl ?_ ?_ | refine xw 4000 rfl ?_ ?_ | refine xk 4000 rfl ?_ ?_ | exact trivial | ((with_reducible (show AllP (_ :: _))); refine And.intro ?_ ?_) | refine xs rfl ?_ ?_ | refine xs_done ?_ | refine xs_last rfl rfl (stepOp_pst rfl ?_ ?_) | refine pcond_t rfl ?_ | refine pcond_f rfl ?_ | refine kround_exit ?_ | refine kround_ret ?_ | refine kround_next ?_ | refine kloop_ret ?_ | refine kloop_exit ?_ | refine kcut_ret ?_ | refine kcut_exit ?_ | refine xo0 4000 rfl ?_ ?_ | refine xw0 4000 rfl ?_ ?_ | exact qq | fail)
    refine pop_callF [2] rfl rfl rfl rfl rfl f3 ⟨argAm rfl (by simp [hlk]) (List.Mem.head _), trivial⟩ ?_
    rintro _ rfl
    repeat' (first | refine xo 4000 rfl ?_ ?_ | refine xw 4000 rfl ?_ ?_ | refine xk 4000 rfl ?_ ?_ | exact trivial | ((with_reducible (show AllP (_ :: _))); refine And.intro ?_ ?_) | refine xs rfl ?_ ?_ | refine xs_done ?_ | refine xs_last rfl rfl (stepOp_pst rfl ?_ ?_) | refine xs_start (id := 22) true [.take 0, .take 1, .take 2, .take 3, .take 4, .take 5, .take 6, .take 7, .take 8, .take 9, .take 10, .take 11, .take 12, .take 13, .take 14, .take 15, .take 16, .take 17, .take 18, .take 19, .take 20, .take 21, .take 22, .take 23, .take 24, .take 25, .take 26, .take 27, .take 28, .take 29, .take 30, .take 31, .take 32, .take 33, .take 34, .take 35, .take 36, .take 37, .take 38, .take 39, .take 40, .take 41, .take 42, .one 43, .take 44, .take 45] 0 rfl rfl (by kernel_rfl) ?_ | (intro h; first | exact ⟨h, Int.le_refl _, (show (0 : Int) < 1 from by decide)⟩ | exact ⟨Int.le_refl _, (show (0 : Int) < 1 from by decide)⟩ | exact ⟨h, (show (0 : Nat) < 1 from by decide)⟩ | exact ⟨h, h, (show (0 : Nat) < 1 from by decide)⟩) | refine pop_callv rfl rfl rfl rfl rfl (sane20_c) rfl rfl rfl ?_ | refine xs_call rfl rfl rfl rfl rfl rfl (sane20_c) rfl rfl rfl ?_ | refine xs_one (ch := []) rfl rfl rfl (pst_callv rfl rfl rfl rfl rfl (sane20_c) rfl rfl rfl ?_) | refine pop_callgv rfl rfl rfl rfl rfl rfl (fun _ => sane20_c) (by first | exact fun h => ⟨h, trivial⟩ | exact fun _ => trivial | exact fun h => ⟨h, h, trivial⟩) rfl rfl rfl ?_ | refine xs_one (ch := []) rfl rfl rfl (pst_callgv rfl rfl rfl rfl rfl rfl (fun _ => sane20_c) (by first | exact fun h => ⟨h, trivial⟩ | exact fun _ => trivial | exact fun h => ⟨h, h, trivial⟩) rfl rfl rfl ?_) | refine pcond_t rfl ?_ | refine pcond_f rfl ?_ | refine kround_exit ?_ | refine kround_ret ?_ | refine kround_next ?_ | refine kloop_ret ?_ | refine kloop_exit ?_ | refine kcut_ret ?_ | refine kcut_exit ?_ | refine xo0 4000 rfl ?_ ?_ | refine xw0 4000 rfl ?_ ?_ | exact qq | fail)
    refine xdone ?_
    refine kretv rfl ⟨trivial, trivial⟩ rfl (eqB ?_)
    have hkl : ((k + 1 : Nat) : Int) = (l.length : Int) := by rw [hlk]
    rw [hkl]
    simp [lF]
theorem versions_walk (v : Value) (l : List Int) (x : Int) (w : World) (h : IntsAt w v l) : Calls G.P 4 #[v, .int .i64 x] w fun e w' => e = .returned (.bool true) ∧ Ext w w' := by
  have hl : l.length ≤ 9223372036854775807 := by obtain ⟨_, _, _, _, h, _⟩ := h; exact h
  exact law_of (vs := [v, .int .i64 x]) (versions_c l.length _ x hl) ⟨h.rel _, rfl, trivial⟩
open Go.ChangeShapes Go.WideShapes Go.ChangeAt Go.RowKit Go.Joins
open Go.ChangeMaps (open_string shut_string)
theorem checkVersions_own : ownKnob Try.prog.godebug = none := by kernel_rfl
theorem checkVersions_laidOut : laidOutB Try.prog = true := by kernel_rfl
theorem checkVersions_bd {n : Int} (h : (Lit.int .i64 n).wf = true) : -9223372036854775808 ≤ n ∧ n ≤ 9223372036854775807 := bounds_i64 h
set_option maxRecDepth 100000 in
theorem checkVersions_lifted (os : Os) (started : os.Started) (H : Type) (enc : TypeId × Value → H) :
    ReturnsInHanded {} Try.checked os 4 .any (Rows.checkVersionsSpec.pre6 enc Try.prog Try.f4 Rows.checkVersionsRow.domain false) (Rows.checkVersionsSpec.post enc Try.prog Try.f4 false true false false) := by
  refine returnsInHanded_of_change (C := Try.checked) checkVersions_own started (by kernel_rfl) Try.func4
    (ChangeSpec.witness6 (enc := enc) (C := Try.checked) false ⟨#[], #[.slice none 0 0, .int .i64 0], []⟩ 8 (by kernel_rfl) (by kernel_rfl) (by kernel_rfl) (by kernel_rfl)) ?_
  intro W base args ds gs before hval0 hW hcnd _
  have hval : ∀ (j : Nat) t v, Try.f4.params[j]? = some t → args[j]? = some v → Value.okWide Try.prog W .any base t v := hval0
  have hW' := hW
  obtain ⟨p, q, hA0, hV, rfl, hfz, hnd⟩ := hW
  have hA : DataW.TrodAll enc Try.prog W 0 (fun _ => true) true Try.f4.params.toList args.toList ds p := hA0
  rw [Try.params4] at hA hval
  obtain ⟨v0, vs0, d0, ds0, p0, q0, hargs, rfl, rfl, h0, r0⟩ := trodAll_cons hA
  obtain ⟨v1, vs1, d1, ds1, p1, q1, rfl, rfl, rfl, h1, r1⟩ := trodAll_cons r0
  obtain ⟨rfl, rfl, rfl⟩ := trodAll_nil r1
  obtain rfl : args = #[v0, v1] := by cases args; simp_all
  obtain ⟨rfl, rfl⟩ := trodVars_none hV
  have k0 := h0
  have lt0 : ∀ x ∈ p0, x.block < W.heap.size := by obtain ⟨m, hm⟩ := k0; exact DataW.trod_lt m _ _ _ hm
  have k1 := h1
  have lt1 : ∀ x ∈ p1, x.block < W.heap.size := by obtain ⟨m, hm⟩ := k1; exact DataW.trod_lt m _ _ _ hm
  obtain ⟨a0, len0, cap0, rfl⟩ := okWide_slice Try.underlying22 (hval 0 22 v0 rfl rfl)
  obtain ⟨z0, w0⟩ : ∃ zs : List Int, IntsAt W (.slice a0 len0 cap0) zs := by
    obtain ⟨fuel, hf⟩ := h0
    rcases open_ints Try.underlying22 Try.underlying3 (by kernel_rfl) hf with ⟨hcs, _⟩ | ⟨x, l, c, zs, hcs, _, hl, hm, hz, _, hcell, hwz⟩
    · simp [Value.cells] at hcs
      obtain ⟨rfl, rfl, rfl⟩ := hcs
      exact ⟨[], intsAt_of_row (zs := []) (.inl ⟨rfl, rfl, rfl, rfl⟩)⟩
    · simp [Value.cells] at hcs
      obtain ⟨rfl, rfl, rfl⟩ := hcs
      exact ⟨zs.take _, intsAt_of_row (.inr ⟨_, rfl, hl, hm, by simpa using hz, hcell, hwz⟩)⟩
  obtain ⟨x1, rfl, _, _, wx1⟩ := open_int Try.underlying3 (hval 1 3 v1 rfl rfl) h1
  clear hA0 hval0
  refine (versions_walk _ z0 x1 W w0).mono fun e W' ⟨he, bel⟩ => ?_
  subst he
  exact ⟨_, rfl, _, _, _, [], _, [], hW', trodAll_mk1 (shut_bool Try.underlying4 _), (trodAll_cons_mk (Below.trod checkVersions_laidOut (by kernel_rfl) (of_decide_eq_true (by kernel_rfl)) k0 bel lt0) (trodAll_cons_mk (Below.trod checkVersions_laidOut (by kernel_rfl) (of_decide_eq_true (by kernel_rfl)) k1 bel lt1) trodAll_mk0)), rfl, bel.frame _, fun h => by cases h⟩

theorem checkVersions_proved : Rows.CheckVersionsSaid :=
  OpenClaim.holds_of_wide 4 Try.f4 rfl rfl rfl rfl rfl rfl rfl ⟨rfl, rfl, rfl, rfl, rfl⟩ rfl rfl rfl rfl rfl (by kernel_rfl) Try.func4 (by kernel_rfl)
    (of_decide_eq_true (by kernel_rfl)) (by unfold Func.isWrapper; first | (rw [if_pos (by decide +kernel)]; kernel_rfl) | (rw [if_neg (by decide +kernel)]; exact ⟨rfl, rfl⟩))
    (fun os started H enc _ => checkVersions_lifted os started H enc)
#print axioms checkVersions_proved
end Go.Proofs.Ytnlcenlamkfmnaa
