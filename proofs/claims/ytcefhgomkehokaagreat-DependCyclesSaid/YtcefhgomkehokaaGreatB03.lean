/- More operations that only read: struct literals, comparisons of structs, slice expressions, function values, bytes of strings. -/
import Derived.Test.YtcefhgomkehokaaGreatB02
set_option linter.unusedSimpArgs false
set_option linter.unusedVariables false
namespace Go.Proofs.YtcefhgomkehokaaGreat
open Go.RowKit
def TK.good : TK → Bool
  | .bad => false
  | _ => true
def eqOk (P : Program) (t : TypeId) : Bool :=
  match P.underlying t with
  | some (.struct fs) => !P.stoodInHeld t && !P.eqGuardType P.depth t && fs.toList.all (fun f => f.name != "_")
  | _ => false
structure Pg2 extends Pg where
  eqs : List Nat
  eqsOk : eqs.all (eqOk P) = true
def partP (tab : List TI) (ft n : Nat) (f : Nat → PV) (o : Nat) : Option PV :=
  cond (tget tab ft).k.isAgg (cond (Nat.ble (o + (tget tab ft).sz) n) (some (.agg (tget tab ft).sz (fun i => f (o + i)))) none) (cond ((tget tab ft).k.scalar && Nat.blt o n) (some (f o)) none)
def peqL (eq : Nat → PV → PV → Option Bool) (tab : List TI) (n m : Nat) (f g : Nat → PV) : List (Nat × Nat) → Option Bool
  | [] => some true
  | (o, ft) :: fs => match partP tab ft n f o, partP tab ft m g o with
    | some p, some q => match eq ft p q with
      | some b => match peqL eq tab n m f g fs with
        | some c => some (b && c)
        | none => none
      | none => none
    | _, _ => none
def peqV (tab : List TI) (eqs : List Nat) : Nat → Nat → PV → PV → Option Bool
  | 0, _, _, _ => none
  | d + 1, t, p, q => match (tget tab t).k, p, q with
    | .int _, .val (.int k a), .val (.int k' b) => cond (IntKind.same k k') (some (a == b)) none
    | .bool, .val (.bool a), .val (.bool b) => some (a == b)
    | .string, .val (.string a), .val (.string b) => some (a.toList == b.toList)
    | .struct fs, .agg n f, .agg m g => cond (eqs.any (Nat.beq t)) (peqL (peqV tab eqs d) tab n m f g fs) none
    | _, _, _ => none
def fillP (tab : List TI) (st : PSt) (fs : List (Nat × Nat)) (k : List PV → Prop → RP) : List (Nat × Operand) → List PV → Prop → RP
  | [], l, c => k l c
  | (i, x) :: ps, l, c => match nth fs i with
    | some (off, ft) => cellsOf (str (st.ev x)) fun q =>
        cond (Nat.beq q.length (tget tab ft).sz && Nat.ble (off + q.length) l.length)
          (forceL l.length (fun j => cond (Nat.ble off j && Nat.blt j (off + q.length)) (nthP q (j - off)) (nthP l j)) 0 fun l' => fillP tab st fs k ps l' (strP (st.ev x) c)) none
    | none => none
def arrFs : Nat → Nat → Nat → Nat → List (Nat × Nat)
  | 0, _, _, _ => []
  | n + 1, o, sz, e => (o, e) :: arrFs n (o + sz) sz e
theorem arrFs_nth : ∀ (n o sz e i : Nat) (x : Nat × Nat), nth (arrFs n o sz e) i = some x → x = (o + i * sz, e)
  | 0, _, _, _, 0, _, h => by simp [arrFs, nth] at h
  | 0, _, _, _, i + 1, _, h => by simp [arrFs, nth] at h
  | n + 1, o, sz, e, 0, x, h => by simp [arrFs, nth] at h; simp [← h]
  | n + 1, o, sz, e, i + 1, x, h => by
    simp only [arrFs, nth] at h
    rw [arrFs_nth n (o + sz) sz e i x h, Nat.add_mul]; congr 1; omega
theorem fill_mono {p q : Nat → Option (Nat × Nat)} (h : ∀ i x, p i = some x → q i = some x) : ∀ (l : List (Nat × Value)) (cs cs' : Array Value), Instr.fill p cs l = some cs' → Instr.fill q cs l = some cs'
  | [], cs, cs', hf => hf
  | (i, v) :: r, cs, cs', hf => by
    unfold Instr.fill at hf ⊢
    cases hp : p i with
    | none => rw [hp] at hf; cases hf
    | some x =>
      rw [hp] at hf
      rw [h i x hp]
      simp only at hf ⊢
      split at hf
      · cases hf
      · rename_i hc
        rw [if_neg hc]
        exact fill_mono h r _ _ hf
def tnat (st : PSt) (d : Nat) : Option Operand → (Int → Prop → RP) → RP
  | none, k => k d True
  | some x, k => match str (st.ev x) with
    | .val (.int _ i) => k i (strP (st.ev x) True)
    | _ => none
def forceLn {α : Type} (n : Nat) (f : Nat → PV) (k : List PV → Option α) : Option α := forceL n f 0 k
def pread2 (tab : List TI) (eqs : List Nat) (st : PSt) : Op → RP
  | .build t parts => match (tget tab t).k, (tget tab t).zero with
    | .struct fs, some z => cond (fs.all fun f => (tget tab f.2).k.good) (zcells z fun l0 => fillP tab st fs (fun l c => some (.agg l.length (nthP l), c)) parts.toList l0 True) none
    | .array n e, some z => cond (Nat.blt 0 (tget tab e).sz) (zcells z fun l0 => fillP tab st (arrFs n 0 (tget tab e).sz e) (fun l c => some (.agg l.length (nthP l), c)) parts.toList l0 True) none
    | _, _ => none
  | .makeFunc fn first captured => match fn, first.toList with
    | .func f, [] => forceLn captured.size (nthP (captured.toList.map st.ev)) fun l => some (.clo f captured.size (nthP l), True)
    | _, _ => none
  | .binOp op t x y _ => match op with
    | .eql => match peqV tab eqs 100 t (str (st.ev x)) (str (st.ev y)), str (st.ev x) with
      | some b, .agg _ _ => some (.val (.bool b), strP (st.ev x) (strP (st.ev y) True))
      | _, _ => none
    | .neq => match peqV tab eqs 100 t (str (st.ev x)) (str (st.ev y)), str (st.ev x) with
      | some b, .agg _ _ => some (.val (.bool !b), strP (st.ev x) (strP (st.ev y) True))
      | _, _ => none
    | _ => none
  | .slice t x lo hi mx => match mx, (tget tab t).k, str (st.ev x) with
    | none, .slice e, .vsl n sz f => tnat st 0 lo fun l c1 => tnat st n hi fun h c2 => cond (Nat.beq (tget tab e).sz sz && Nat.blt 0 sz)
        (some (.vsl (h - l).toNat sz (fun a => f (l.toNat + a)), strP (st.ev x) (c1 ∧ c2 ∧ 0 ≤ l ∧ l ≤ h ∧ h ≤ n))) none
    | none, .slice e, .lsl r i n => match rowAt st.mem r with
      | some row => row.ok fun row => tnat st 0 lo fun l c1 => tnat st n hi fun h c2 => cond (Nat.beq (tget tab e).sz row.sz && Nat.blt 0 row.sz)
        (some (.lsl r (i + l.toNat) (h - l).toNat, strP (st.ev x) (c1 ∧ c2 ∧ 0 ≤ l ∧ l ≤ h ∧ h ≤ n))) none
      | none => none
    | none, .string, .val (.string s) => tnat st 0 lo fun l c1 => tnat st s.size hi fun h c2 => some (.val (.string (s.extract l.toNat h.toNat)), strP (st.ev x) (c1 ∧ c2 ∧ 0 ≤ l ∧ l ≤ h ∧ h ≤ s.size))
    | some mx, .slice e, .vsl n sz f => tnat st 0 lo fun l c1 => tnat st n hi fun h c2 => tnat st n (some mx) fun q c3 => cond (hi.isSome && (Nat.beq (tget tab e).sz sz && Nat.blt 0 sz))
        (some (.csl (h - l).toNat sz (fun a => f (l.toNat + a)), strP (st.ev x) (c1 ∧ c2 ∧ c3 ∧ 0 ≤ l ∧ l ≤ h ∧ h = q ∧ q ≤ n))) none
    | _, _, _ => none
  | .index t x y => match (tget tab t).k, str (st.ev x), str (st.ev y) with
    | .string, .val (.string s), .val (.int _ i) => some (.val (.int .u8 ((s.data.getD i.toNat 0).toNat : Int)), strP (st.ev x) (strP (st.ev y) (0 ≤ i ∧ i < s.size)))
    | .array n e, .agg m f, .val (.int _ i) => match partP tab e m f (i.toNat * (tget tab e).sz) with
      | some p => cond (Nat.blt 0 (tget tab e).sz) (force p fun p => some (p, strP (st.ev x) (strP (st.ev y) (0 ≤ i ∧ i < n)))) none
      | none => none
    | _, _, _ => none
  | _ => none
section
variable {P : Program} {tab : List TI} {N : Nat} {Γ : Fr} {st : PSt} {ρ : Nat → Loc} {I : Nat → Prop} {a : Act} {w : World}
theorem partP_sound (hT : TabOk P tab) {ft n o k : Nat} {f : Nat → PV} {p : PV} {vs : Array Value} (hn : vs.size = n) (hv : ∀ i, i < n → (vs.getD i undef).oneCell' = true ∧ VRel k ρ I w (f i) (vs.getD i undef)) (h : partP tab ft n f o = some p) :
    ∃ u, (∀ w' : World, (part ft vs o).run P w' = .ok u w') ∧ VRel k ρ I w p u := by
  unfold partP at h
  cases ha : (tget tab ft).k.isAgg
  · rw [ha] at h
    simp only [cond_false] at h
    obtain ⟨h1, h2⟩ := cond_some h
    simp only [Bool.and_eq_true, Nat.blt_eq] at h1
    simp only [Option.some.injEq] at h2
    subst h2
    have e4 : vs[o]? = some (vs.getD o undef) := by simp [Array.getD_eq_getD_getElem?, show o < vs.size by omega]
    exact ⟨_, fun w' => by simp only [part, Sem.run_bind, tab_scalar hT h1.1 w', Result.andThen_ok, Bool.false_eq_true, if_false, e4, Sem.run_pure], (hv o h1.2).2⟩
  · rw [ha] at h
    simp only [cond_true] at h
    obtain ⟨h1, h2⟩ := cond_some h
    simp only [Option.some.injEq] at h2
    subst h2
    have hj : o + (tget tab ft).sz ≤ n := Nat.le_of_ble_eq_true h1
    obtain ⟨d, hd1, hd2⟩ := tab_agg hT ha
    have hagg : ∀ w' : World, (isAgg ft).run P w' = .ok true w' := fun w' => by
      unfold isAgg
      rw [Sem.run_bind, run_underlying hd1 w']
      cases d <;> simp_all
    have hsz : ∀ w' : World, (sizeOf ft).run P w' = .ok (tget tab ft).sz w' := fun w' => by
      rw [tab_eq hT (by intro e; rw [e] at ha; cases ha), tiOf]
      cases hi : P.info? ft with
      | none => simp [Program.underlying, hi] at hd1
      | some q => simp [sizeOf, typeInfo, hi]
    refine ⟨.agg (vs.extract o (o + (tget tab ft).sz)), fun w' => ?_, _, rfl, by simp; omega, fun q hq => ?_⟩
    · simp only [part, Sem.run_bind, hagg w', Result.andThen_ok, if_true, hsz w', Sem.run_pure]
    · have : (vs.extract o (o + (tget tab ft).sz)).getD q undef = vs.getD (o + q) undef := by
        simp [Array.getD_eq_getD_getElem?, Array.getElem?_extract, show q < min (o + (tget tab ft).sz) vs.size - o by omega, show o + q < vs.size by omega]
      rw [this]; exact hv _ (by omega)
theorem peqV_sound (hT : TabOk P tab) {eqs : List Nat} (he : eqs.all (eqOk P) = true) : ∀ (d t : Nat) (p q : PV) (b : Bool) (u v : Value) (k D : Nat), d ≤ D → VRel k ρ I w p u → VRel k ρ I w q v → peqV tab eqs d t p q = some b → ∀ w' : World, (Op.equalIn D t u v).run P w' = .ok b w'
  | 0, _, _, _, _, _, _, _, _, _, _, _, h, _ => by cases h
  | d + 1, t, p, q, b, u, v, k, D, hD, hu, hv, h, w' => by
    obtain ⟨D, rfl⟩ : ∃ D', D = D' + 1 := ⟨D - 1, by omega⟩
    unfold peqV at h
    split at h
    · rename_i kk k1 x k2 y hk
      obtain ⟨h1, h2⟩ := cond_some h
      obtain rfl := IntKind.same_eq h1
      simp only [Option.some.injEq] at h2
      subst h2
      cases hu; cases hv
      exact run_equalIn_int w' D t _ kk _ _ (tab_int hT hk)
    · rename_i x y hk
      simp only [Option.some.injEq] at h
      subst h
      cases hu; cases hv
      exact run_equalIn_bool' w' D t _ _ (tab_bool hT (by rw [hk]; rfl))
    · rename_i x y hk
      simp only [Option.some.injEq] at h
      subst h
      cases hu; cases hv
      exact run_equalIn_string w' D t _ _ (tab_string hT hk)
    · rename_i fs n f m g hk
      obtain ⟨h1, h2⟩ := cond_some h
      have hmem : t ∈ eqs := (any_beq eqs t).1 h1
      have hok : eqOk P t = true := List.all_eq_true.1 he t hmem
      obtain ⟨fields, hund, hfs⟩ := tab_struct hT hk
      simp only [eqOk, hund, Bool.and_eq_true, Bool.not_eq_true'] at hok
      obtain ⟨⟨hok1, hok2⟩, hok3⟩ := hok
      have hfo : P.fieldsOf t = fields := by simp [Program.fieldsOf, hund]
      obtain ⟨us, rfl, hun, huv⟩ := hu
      obtain ⟨vs, rfl, hvn, hvv⟩ := hv
      rw [run_equalIn_struct w' D t us vs (by rw [hfo]; exact hund) hok1, hfo]
      clear hk hund hfo
      subst hfs
      -- the fields, one by one
      have key : ∀ (l : List Field) (b : Bool), l.all (fun f => f.name != "_") = true → peqL (peqV tab eqs d) tab n m f g (l.map fun f => (f.offset, f.type)) = some b → (Op.eqFields D us vs l).run P w' = .ok b w' := by
        intro l
        induction l with
        | nil => intro b _ hb; simp only [List.map_nil, peqL, Option.some.injEq] at hb; subst hb; rfl
        | cons fd l ih =>
          intro b hl hb
          simp only [List.all_cons, Bool.and_eq_true] at hl
          simp only [List.map_cons, peqL] at hb
          split at hb
          · rename_i p1 q1 hp1 hq1
            split at hb
            · rename_i b1 hb1
              split at hb
              · rename_i c1 hc1
                simp only [Option.some.injEq] at hb
                subst hb
                obtain ⟨u1, hu1, hur⟩ := partP_sound (P := P) hT hun huv hp1
                obtain ⟨v1, hv1, hvr⟩ := partP_sound (P := P) hT hvn hvv hq1
                have hrec := peqV_sound hT he d fd.type p1 q1 b1 u1 v1 k D (by omega) hur hvr hb1 w'
                have hne : fd.name ≠ "_" := by simpa using hl.1
                simp only [Op.eqFields, if_pos hne, Sem.run_bind, hu1 w', Result.andThen_ok, hv1 w', hrec, Sem.run_ite, ih c1 hl.2 hc1]
                cases b1 <;> simp
              · cases hb
            · cases hb
          · cases hb
      exact key fields.toList b hok3 h2
    · cases h
theorem fold_set (off : Nat) : ∀ (vs : List Value) (m : Nat) (cs : Array Value), ((vs.zipIdx m).foldl (fun (cs : Array Value) (z : Value × Nat) => cs.setIfInBounds (off + z.2) z.1) cs).size = cs.size ∧ ∀ q, ((vs.zipIdx m).foldl (fun (cs : Array Value) (z : Value × Nat) => cs.setIfInBounds (off + z.2) z.1) cs)[q]? = if off + m ≤ q ∧ q < off + m + vs.length ∧ q < cs.size then some (vs.getD (q - (off + m)) undef) else cs[q]?
  | [], m, cs => ⟨rfl, fun q => by rw [if_neg (by simp; omega)]; rfl⟩
  | v :: vs, m, cs => by
    obtain ⟨h1, h2⟩ := fold_set off vs (m + 1) (cs.setIfInBounds (off + m) v)
    simp only [List.zipIdx_cons, List.foldl_cons]
    refine ⟨by rw [h1]; simp, fun q => ?_⟩
    rw [h2 q]
    simp only [Array.size_setIfInBounds, List.length_cons]
    by_cases c1 : off + (m + 1) ≤ q ∧ q < off + (m + 1) + vs.length ∧ q < cs.size
    · rw [if_pos c1, if_pos (by omega)]
      rw [show q - (off + m) = (q - (off + (m + 1))) + 1 by omega]; simp
    · rw [if_neg c1]
      by_cases c2 : q = off + m
      · subst c2
        by_cases c3 : off + m < cs.size
        · rw [if_pos ⟨Nat.le_refl _, by omega, c3⟩]; simp [Array.getElem?_setIfInBounds, c3]
        · rw [if_neg (by omega), Array.getElem?_eq_none (by simp; omega), Array.getElem?_eq_none (by omega)]
      · rw [if_neg (by omega)]; simp [Array.getElem?_setIfInBounds, Ne.symm c2]
theorem fillP_sound (hT : TabOk P tab) {fs : List (Nat × Nat)} {kk : List PV → Prop → RP} {y : PV × Prop} (h : Rel N Γ st ρ I a w) : ∀ (ps : List (Nat × Operand)) (l : List PV) (c : Prop), fillP tab st fs kk ps l c = some y → ∃ l' c', kk l' c' = some y ∧ (c' → c) ∧ (c' → ∀ cs : Array Value, cs.size = l.length → (∀ i, i < l.length → (cs.getD i undef).oneCell' = true ∧ VRel st.mem.length ρ I w (nthP l i) (cs.getD i undef)) →
    ∃ cs', Instr.fill (fun i => (nth fs i).map fun x => (x.1, (tget tab x.2).sz)) cs (ps.map fun x => (x.1, a.eval x.2)) = some cs' ∧ cs'.size = l'.length ∧ ∀ i, i < l'.length → (cs'.getD i undef).oneCell' = true ∧ VRel st.mem.length ρ I w (nthP l' i) (cs'.getD i undef))
  | [], l, c, hr => ⟨l, c, hr, fun h => h, fun _ cs h1 h2 => ⟨cs, rfl, h1, h2⟩⟩
  | (i, x) :: ps, l, c, hr => by
    rw [fillP] at hr
    split at hr
    · rename_i off ft hn
      obtain ⟨q, h1, h2⟩ := cellsOf_sound hr
      obtain ⟨hk, h1⟩ := cond_some h1
      simp only [Bool.and_eq_true] at hk
      have hk1 : q.length = (tget tab ft).sz := Nat.eq_of_beq_eq_true hk.1
      have hk2 : off + q.length ≤ l.length := Nat.le_of_ble_eq_true hk.2
      rw [forceL_eq] at h1
      generalize hl2 : List.map (fun j => cond (Nat.ble off j && Nat.blt j (off + q.length)) (nthP q (j - off)) (nthP l j)) (List.range' 0 l.length) = l2 at h1
      have hlen : l2.length = l.length := by rw [← hl2]; simp
      have hnth : ∀ j, j < l.length → nthP l2 j = cond (Nat.ble off j && Nat.blt j (off + q.length)) (nthP q (j - off)) (nthP l j) := fun j hj => by
        rw [← hl2, nthP_map _ _ _ _ hj, Nat.zero_add]
      obtain ⟨l', c', hkk, hcc, hrest⟩ := fillP_sound hT h ps l2 (strP (st.ev x) c) h1
      refine ⟨l', c', hkk, fun hc' => (str_rel (ev_rel h x) (hcc hc')).2, fun hc' cs hs hv => ?_⟩
      obtain ⟨hx, hc⟩ := str_rel (ev_rel h x) (hcc hc')
      obtain ⟨g1, g2⟩ := h2 _ _ _ _ _ hx
      generalize hcs2 : ((a.eval x).cells.zipIdx.foldl (fun cs (z : Value × Nat) => cs.setIfInBounds (off + z.2) z.1) cs) = cs2
      obtain ⟨f1, f2⟩ := fold_set off (a.eval x).cells.toList 0 cs
      rw [← Array.toList_zipIdx, Array.foldl_toList, hcs2] at f1 f2
      have hs2 : cs2.size = l2.length := by rw [f1, hs, hlen]
      obtain ⟨cs', e1, e2, e3⟩ := hrest hc' cs2 hs2 (fun j hj => by
        rw [hlen] at hj
        have e : cs2.getD j undef = if off ≤ j ∧ j < off + (a.eval x).cells.size then (a.eval x).cells.getD (j - off) undef else cs.getD j undef := by
          simp only [Array.getD_eq_getD_getElem?, f2 j, Nat.add_zero, Array.length_toList]
          by_cases hc1 : off ≤ j ∧ j < off + (a.eval x).cells.size
          · rw [if_pos ⟨hc1.1, hc1.2, by omega⟩, if_pos hc1]; simp [List.getD]
          · rw [if_neg (by omega), if_neg hc1]
        rw [hnth j hj, e]
        by_cases hr1 : off ≤ j ∧ j < off + q.length
        · have e1 : (Nat.ble off j && Nat.blt j (off + q.length)) = true := by simp [Nat.ble_eq, Nat.blt_eq, hr1]
          rw [e1, cond_true, if_pos (by omega)]
          exact g2 (j - off) (by omega)
        · have e1 : (Nat.ble off j && Nat.blt j (off + q.length)) = false := by
            cases hbb : (Nat.ble off j && Nat.blt j (off + q.length))
            · rfl
            · simp [Nat.ble_eq, Nat.blt_eq] at hbb; omega
          rw [e1, cond_false, if_neg (by omega)]
          exact hv j hj)
      refine ⟨cs', ?_, e2, e3⟩
      simp only [List.map_cons, Instr.fill, hn, Option.map_some]
      rw [if_neg (by simp; omega)]
      rw [← hcs2] at e1
      exact e1
    · cases hr
theorem places_run (hT : TabOk P tab) (w' : World) : ∀ (l : List Field), (l.all fun f => (tget tab f.type).k.good) = true → (l.mapM (fun (f : Field) => (do pure (f.offset, ← sizeOf f.type) : Sem (Nat × Nat)))).run P w' = .ok (l.map fun (f : Field) => (f.offset, (tget tab f.type).sz)) w'
  | [], _ => rfl
  | f :: l, h => by
    simp only [List.all_cons, Bool.and_eq_true] at h
    have ih := places_run hT w' l h.2
    have hs : (sizeOf f.type).run P w' = .ok (tget tab f.type).sz w' := by
      have hb : (tget tab f.type).k ≠ .bad := by intro e; rw [e] at h; cases h.1
      have e := tab_eq hT hb
      rw [e, tiOf] at hb ⊢
      cases hi : P.info? f.type with
      | none => rw [hi] at hb; exact absurd rfl hb
      | some q => simp [sizeOf, typeInfo, hi]
    simp only [List.mapM_cons, Sem.run_bind, hs, Result.andThen_ok, Sem.run_pure, ih, List.map_cons]
theorem tnat_some {n : Nat} {x : Option Operand} {k : Int → Prop → RP} {y : PV × Prop} (h : Rel N Γ st ρ I a w) (hr : tnat st n x k = some y) : ∃ i c, k i c = some y ∧ (c → (x = none ∧ i = n) ∨ ∃ z kk, x = some z ∧ a.eval z = .int kk i) := by
  unfold tnat at hr
  split at hr
  · exact ⟨n, True, hr, fun _ => .inl ⟨rfl, rfl⟩⟩
  · rename_i z
    split at hr
    · rename_i kk i hb
      refine ⟨i, _, hr, fun hc => .inr ⟨z, kk, rfl, ?_⟩⟩
      obtain ⟨hx, _⟩ := str_rel (ev_rel h z) hc
      rw [hb] at hx
      exact hx
    · cases hr
theorem sliceBound_run (kk : IntKind) (i : Int) (y : Nat) (c : BoundsCode) (w' : World) (h0 : 0 ≤ i) (h1 : i ≤ y) : (Instr.sliceBound (.int kk i) y c).run P w' = .ok i.toNat w' := by
  simp only [Instr.sliceBound, asIntOf, Sem.run_bind, Sem.run_pure, Result.andThen_ok, Sem.run_ite, if_pos (⟨h0, h1⟩ : 0 ≤ i ∧ i ≤ y)]
theorem sliceBounds_run {lo hi : Option Operand} {l h' : Int} {len cap : Nat} (b : Bool) (hl : (lo = none ∧ l = (0 : Nat)) ∨ ∃ z kk, lo = some z ∧ a.eval z = .int kk l) (hh : (hi = none ∧ h' = (len : Nat)) ∨ ∃ z kk, hi = some z ∧ a.eval z = .int kk h') (h0 : 0 ≤ l) (h1 : l ≤ h') (h2 : h' ≤ len) (h3 : len ≤ cap) (w' : World) :
    (Instr.sliceBounds b len cap (lo.map a.eval) (hi.map a.eval) none).run P w' = .ok (l.toNat, h'.toNat, cap) w' := by
  have e1 : ((h'.toNat : Nat) : Int) = h' := by omega
  rcases hl with ⟨rfl, rfl⟩ | ⟨z, kk, rfl, hz⟩ <;> rcases hh with ⟨rfl, rfl⟩ | ⟨z2, kk2, rfl, hz2⟩
  · simp [Instr.sliceBounds]
  · simp only [Instr.sliceBounds, Option.map_none, Option.map_some, hz2, Sem.run_bind, Sem.run_pure, Result.andThen_ok, sliceBound_run kk2 h' cap _ w' (by omega) (by omega)]
    simp
  · simp only [Instr.sliceBounds, Option.map_none, Option.map_some, hz, Sem.run_bind, Sem.run_pure, Result.andThen_ok, sliceBound_run kk l len _ w' (by omega) (by omega)]
    simp
  · simp only [Instr.sliceBounds, Option.map_some, hz, hz2, Sem.run_bind, Sem.run_pure, Result.andThen_ok, sliceBound_run kk2 h' cap _ w' (by omega) (by omega), sliceBound_run kk l h'.toNat _ w' (by omega) (by omega)]
theorem sliceBounds_run3 {lo : Option Operand} {z2 z3 : Operand} {k2 k3 : IntKind} {l h' q : Int} {len cap : Nat} (b : Bool) (hl : (lo = none ∧ l = (0 : Nat)) ∨ ∃ z kk, lo = some z ∧ a.eval z = .int kk l) (hh : a.eval z2 = .int k2 h') (hq : a.eval z3 = .int k3 q) (h0 : 0 ≤ l) (h1 : l ≤ h') (h2 : h' ≤ q) (h3 : q ≤ len) (h4 : len ≤ cap) (w' : World) :
    (Instr.sliceBounds b len cap (lo.map a.eval) (some (a.eval z2)) (some (a.eval z3))).run P w' = .ok (l.toNat, h'.toNat, q.toNat) w' := by
  rcases hl with ⟨rfl, rfl⟩ | ⟨z, kk, rfl, hz⟩
  · simp only [Instr.sliceBounds, Option.map_none, hh, hq, Sem.run_bind, Sem.run_pure, Result.andThen_ok, sliceBound_run k3 q cap _ w' (by omega) (by omega), sliceBound_run k2 h' q.toNat _ w' (by omega) (by omega)]
    simp
  · simp only [Instr.sliceBounds, Option.map_some, hz, hh, hq, Sem.run_bind, Sem.run_pure, Result.andThen_ok, sliceBound_run k3 q cap _ w' (by omega) (by omega), sliceBound_run k2 h' q.toNat _ w' (by omega) (by omega), sliceBound_run kk l h'.toNat _ w' (by omega) (by omega)]
theorem pread2_sound (hT : TabOk P tab) {eqs : List Nat} (he : eqs.all (eqOk P) = true) (h : Rel N Γ st ρ I a w) (o : Oper) {r : PV} {pre : Prop} (hr : pread2 tab eqs st o.op = some (r, pre)) (hp : pre) : Yld false P ρ I st w a o r := by
  cases ho : o.op with
  | build t parts =>
    rw [ho] at hr
    unfold pread2 at hr
    dsimp only at hr
    split at hr
    · rename_i fs z hk hz
      obtain ⟨hgood, hr⟩ := cond_some hr
      obtain ⟨l0, h1, h2, h3⟩ := zcells_sound hr
      obtain ⟨l', c', hkk, hcc, hrest⟩ := fillP_sound hT h parts.toList l0 True h1
      simp only [Option.some.injEq, Prod.mk.injEq] at hkk
      obtain ⟨rfl, rfl⟩ := hkk
      obtain ⟨cs', e1, e2, e3⟩ := hrest hp z.cells h2 (fun i hi => ⟨(h3 i hi).1, by rw [(h3 i hi).2]; rfl⟩)
      obtain ⟨fields, hund, rfl⟩ := tab_struct hT hk
      refine ⟨.agg cs', fun w' _ => ?_, cs', rfl, e2, e3⟩
      simp only [execOp, ho]
      refine run_v _ _ _ ?_
      have hzero : (zeroValue t).run P w' = .ok z w' := by
        have e := tab_eq hT (by rw [hk]; simp : (tget tab t).k ≠ .bad)
        rw [e, tiOf] at hz
        cases hi : P.info? t with
        | none => rw [hi] at hz; cases hz
        | some i => rw [hi] at hz; simp only at hz; simp [zeroValue, typeInfo, hi, hz]
      have hpl := places_run (P := P) hT w' fields.toList (by simpa [List.all_map, Function.comp_def] using hgood)
      simp only [Instr.build, Sem.run_bind, hzero, Result.andThen_ok, run_underlying hund w', Array.mapM_eq_mapM_toList, Sem.run_map, hpl]
      have e4 : (parts.map fun x => (x.1, a.eval x.2)).toList = parts.toList.map fun x => (x.1, a.eval x.2) := by simp
      have e5 : (fun i : Nat => (fields.toList.map fun f => (f.offset, (tget tab f.type).sz)).toArray[i]?) = fun i => (nth (fields.toList.map fun f => (f.offset, f.type)) i).map fun x => (x.1, (tget tab x.2).sz) := by
        funext i
        rw [nth_get]; simp [List.getElem?_map]
        cases fields[i]? <;> rfl
      simp only [e5, e4, e1, Sem.run_pure]
    · rename_i n e z hk hz
      obtain ⟨hpos, hr⟩ := cond_some hr
      rw [Nat.blt_eq] at hpos
      obtain ⟨l0, h1, h2, h3⟩ := zcells_sound hr
      obtain ⟨l', c', hkk, hcc, hrest⟩ := fillP_sound hT h parts.toList l0 True h1
      simp only [Option.some.injEq, Prod.mk.injEq] at hkk
      obtain ⟨rfl, rfl⟩ := hkk
      obtain ⟨cs', e1, e2, e3⟩ := hrest hp z.cells h2 (fun i hi => ⟨(h3 i hi).1, by rw [(h3 i hi).2]; rfl⟩)
      have hund := tab_array hT hk
      refine ⟨.agg cs', fun w' _ => ?_, cs', rfl, e2, e3⟩
      simp only [execOp, ho]
      refine run_v _ _ _ ?_
      have hzero : (zeroValue t).run P w' = .ok z w' := by
        have e := tab_eq hT (by rw [hk]; simp : (tget tab t).k ≠ .bad)
        rw [e, tiOf] at hz
        cases hi : P.info? t with
        | none => rw [hi] at hz; cases hz
        | some i => rw [hi] at hz; simp only at hz; simp [zeroValue, typeInfo, hi, hz]
      have e4 : (parts.map fun x => (x.1, a.eval x.2)).toList = parts.toList.map fun x => (x.1, a.eval x.2) := by simp
      have e5 := fill_mono (q := fun i => some (i * (tget tab e).sz, (tget tab e).sz)) (fun i x hx => by
        cases hn : nth (arrFs n 0 (tget tab e).sz e) i with
        | none => rw [hn] at hx; cases hx
        | some y =>
          rw [hn] at hx
          rw [arrFs_nth _ _ _ _ _ _ hn] at hx
          simpa using hx) _ _ _ e1
      simp only [Instr.build, Sem.run_bind, hzero, Result.andThen_ok, run_underlying hund w', (tab_size hT (t := e) (w := w') (by omega)).1, e4, e5, Sem.run_pure]
    · cases hr
  | makeFunc fn first captured =>
    rw [ho] at hr
    unfold pread2 at hr
    dsimp only at hr
    split at hr
    · rename_i f hf
      rw [forceLn, forceL_eq] at hr
      simp only [Option.some.injEq, Prod.mk.injEq] at hr
      obtain ⟨rfl, _⟩ := hr
      have hf' : first = #[] := by apply Array.ext'; simpa using hf
      subst hf'
      refine ⟨.func (.func f) #[] (captured.map a.eval), fun w' _ => by simp [execOp, ho, Instr.makeFunc], captured.map a.eval, rfl, by simp, fun i hi => ?_⟩
      rw [nthP_map _ _ _ _ hi, Nat.zero_add]
      have := evs_rel h captured.toList i (by simpa using hi)
      simpa [List.getD, Array.getD_eq_getD_getElem?] using this
    · cases hr
  | binOp op t x y t' =>
    rw [ho] at hr
    unfold pread2 at hr
    dsimp only at hr
    have key : ∀ (b : Bool) (n : Nat) (f : Nat → PV), peqV tab eqs 100 t (str (st.ev x)) (str (st.ev y)) = some b → str (st.ev x) = .agg n f → strP (st.ev x) (strP (st.ev y) True) → ∃ us vs, a.eval x = .agg us ∧ a.eval y = .agg vs ∧ (∀ w' : World, (Op.equalIn 10000 t (.agg us) (.agg vs)).run P w' = .ok b w') ∧ P.eqGuardType P.depth t = false := by
      intro b n f hb hag hpp
      obtain ⟨hx, hpp⟩ := str_rel (ev_rel h x) hpp
      obtain ⟨hy, _⟩ := str_rel (ev_rel h y) hpp
      have hrun := peqV_sound (P := P) hT he 100 t _ _ b _ _ _ 10000 (by omega) hx hy hb
      rw [hag] at hx hb
      unfold peqV at hb
      split at hb
      · rename_i heq _; cases heq
      · rename_i heq _; cases heq
      · rename_i heq _; cases heq
      · rename_i fs n' f' m g hk heq hb2
        rw [hb2] at hy
        obtain ⟨us, e1, _⟩ := hx
        obtain ⟨vs, e2, _⟩ := hy
        obtain ⟨h1, _⟩ := cond_some hb
        have hok : eqOk P t = true := List.all_eq_true.1 he t ((any_beq eqs t).1 h1)
        obtain ⟨fields, hund, _⟩ := tab_struct hT hk
        simp only [eqOk, hund, Bool.and_eq_true, Bool.not_eq_true'] at hok
        rw [e1, e2] at hrun
        exact ⟨us, vs, e1, e2, hrun, hok.1.2⟩
      · cases hb
    split at hr
    · split at hr
      · rename_i b n f hb hag
        simp only [Option.some.injEq, Prod.mk.injEq] at hr
        obtain ⟨rfl, rfl⟩ := hr
        obtain ⟨us, vs, e1, e2, e3, e4⟩ := key b n f hb hag hp
        refine ⟨.bool b, fun w' _ => ?_, rfl⟩
        simp only [execOp, ho, e1, e2]
        refine run_v _ _ _ ?_
        simp only [Sem.run_bind, run_eqGuard_agg w' _ t x y us vs e4, Result.andThen_ok, run_eql_struct, e3]
      · cases hr
    · split at hr
      · rename_i b n f hb hag
        simp only [Option.some.injEq, Prod.mk.injEq] at hr
        obtain ⟨rfl, rfl⟩ := hr
        obtain ⟨us, vs, e1, e2, e3, e4⟩ := key b n f hb hag hp
        refine ⟨.bool !b, fun w' _ => ?_, rfl⟩
        simp only [execOp, ho, e1, e2]
        refine run_v _ _ _ ?_
        simp only [Sem.run_bind, run_eqGuard_agg w' _ t x y us vs e4, Result.andThen_ok, run_neq_struct, e3]
      · cases hr
    · cases hr
  | slice t x lo hi mx =>
    rw [ho] at hr
    unfold pread2 at hr
    dsimp only at hr
    split at hr
    · rename_i e n sz f hk hb
      obtain ⟨l, c1, hr, hc1⟩ := tnat_some h hr
      obtain ⟨h', c2, hr, hc2⟩ := tnat_some h hr
      obtain ⟨h1, hr⟩ := cond_some hr
      simp only [Option.some.injEq, Prod.mk.injEq] at hr
      obtain ⟨rfl, rfl⟩ := hr
      obtain ⟨hx, p1, p2, p3, p4, p5⟩ := str_rel (ev_rel h x) hp
      simp only [Bool.and_eq_true, Nat.blt_eq] at h1
      have hsz : (tget tab e).sz = sz := Nat.eq_of_beq_eq_true h1.1
      rw [hb] at hx
      obtain ⟨ad, cap, e1, e2, e3⟩ := hx
      have hrun : ∀ w' : World, (Instr.sliceAt t (a.eval x) (lo.map a.eval) (hi.map a.eval) none).run P w' = .ok (.slice (if cap = l.toNat then ad else ad.map (·.add (l.toNat * sz))) (h'.toNat - l.toNat) (cap - l.toNat)) w' := fun w' => by
        have hu := tab_slice hT hk
        have hs' : (sizeOf e).run P w' = .ok sz w' := by rw [← hsz]; exact (tab_size hT (by omega)).1
        simp only [Instr.sliceAt, Sem.run_bind, run_underlying hu w', Result.andThen_ok, e1, Instr.slice, sliceBounds_run (P := P) (a := a) true (hc1 p1) (hc2 p2) p3 p4 p5 e2 w', hs', Sem.run_pure]
      refine ⟨_, fun w' _ => by simp only [execOp, ho, Option.map_none]; exact run_v _ _ _ (hrun w'), ?_⟩
      have hnn : h'.toNat - l.toNat = (h' - l).toNat := by omega
      rw [hnn]
      refine ⟨_, _, rfl, by omega, ?_⟩
      rcases e3 with rfl | ⟨b, o', rfl, g1, g2⟩
      · exact .inl (by omega)
      · by_cases hz : (h' - l).toNat = 0
        · exact .inl hz
        · refine .inr ⟨b, o' + l.toNat * sz, ?_, g1, fun i hi j hj => ?_⟩
          · rw [if_neg (by omega)]; simp [Addr.add_mid]
          · obtain ⟨u, q1, q2⟩ := g2 (l.toNat + i) (by omega) j hj
            exact ⟨u, by rw [← q1, Nat.add_mul]; congr 2; omega, q2⟩
    · rename_i e rr i n hk hb
      rw [rowAt_get] at hr
      split at hr
      · rename_i row hrow
        obtain ⟨hlive, hr⟩ := Row.ok_some hr
        obtain ⟨l, c1, hr, hc1⟩ := tnat_some h hr
        obtain ⟨h', c2, hr, hc2⟩ := tnat_some h hr
        obtain ⟨h1, hr⟩ := cond_some hr
        simp only [Option.some.injEq, Prod.mk.injEq] at hr
        obtain ⟨rfl, rfl⟩ := hr
        obtain ⟨hx, p1, p2, p3, p4, p5⟩ := str_rel (ev_rel h x) hp
        simp only [Bool.and_eq_true, Nat.blt_eq] at h1
        have hsz : (tget tab e).sz = row.sz := Nat.eq_of_beq_eq_true h1.1
        obtain ⟨hrs, _⟩ := h.fr.m.row rr row hrow hlive
        rw [hb] at hx
        obtain ⟨hl, hx⟩ := hx
        have hform : ∃ ad cap, a.eval x = .slice ad n cap ∧ n ≤ cap ∧ ((n = 0 ∧ cap = 0) ∨ (ad = some ⟨(ρ rr).b, (ρ rr).o + i * (ρ rr).sz, none⟩ ∧ ∃ cs T fz, w.heap[(ρ rr).b]? = some (Obj.cells cs T fz) ∧ (ρ rr).o + (i + cap) * (ρ rr).sz ≤ cs.size)) := by
          rcases hx with ⟨rfl, ad, e1⟩ | ⟨cap, e2, e1, e3⟩
          · exact ⟨ad, 0, e1, Nat.le_refl _, .inl ⟨rfl, rfl⟩⟩
          · exact ⟨_, cap, e1, e2, .inr ⟨rfl, e3⟩⟩
        obtain ⟨ad, cap, e1, e2, e3⟩ := hform
        have hrun : ∀ w' : World, (Instr.sliceAt t (a.eval x) (lo.map a.eval) (hi.map a.eval) none).run P w' = .ok (.slice (if cap = l.toNat then ad else ad.map (·.add (l.toNat * row.sz))) (h'.toNat - l.toNat) (cap - l.toNat)) w' := fun w' => by
          have hu := tab_slice hT hk
          have hs' : (sizeOf e).run P w' = .ok row.sz w' := by rw [← hsz]; exact (tab_size hT (by omega)).1
          simp only [Instr.sliceAt, Sem.run_bind, run_underlying hu w', Result.andThen_ok, e1, Instr.slice, sliceBounds_run (P := P) (a := a) true (hc1 p1) (hc2 p2) p3 p4 p5 e2 w', hs', Sem.run_pure]
        refine ⟨_, fun w' _ => by simp only [execOp, ho, Option.map_none]; exact run_v _ _ _ (hrun w'), ?_⟩
        have hnn : h'.toNat - l.toNat = (h' - l).toNat := by omega
        rw [hnn]
        refine ⟨hl, ?_⟩
        by_cases hcl : cap = l.toNat
        · rw [if_pos hcl]
          have : (h' - l).toNat = 0 := by omega
          rw [this, show cap - l.toNat = 0 by omega]
          exact .inl ⟨rfl, _, rfl⟩
        · rw [if_neg hcl]
          rcases e3 with ⟨e4, e5⟩ | ⟨rfl, cs, T, fz, e4, e5⟩
          · omega
          · refine .inr ⟨cap - l.toNat, by omega, ?_, cs, T, fz, e4, ?_⟩
            · simp only [Option.map_some, Addr.add_mid, hrs, Nat.add_mul, Nat.add_assoc]
            · rw [show i + l.toNat + (cap - l.toNat) = i + cap by omega]; exact e5
      · cases hr
    · rename_i s hk hb
      obtain ⟨l, c1, hr, hc1⟩ := tnat_some h hr
      obtain ⟨h', c2, hr, hc2⟩ := tnat_some h hr
      simp only [Option.some.injEq, Prod.mk.injEq] at hr
      obtain ⟨rfl, rfl⟩ := hr
      obtain ⟨hx, p1, p2, p3, p4, p5⟩ := str_rel (ev_rel h x) hp
      rw [hb] at hx
      have e1 : a.eval x = .string s := hx
      refine ⟨.string (s.extract l.toNat h'.toNat), fun w' _ => ?_, rfl⟩
      simp only [execOp, ho, Option.map_none]
      refine run_v _ _ _ ?_
      have hu := tab_string hT hk
      simp only [Instr.sliceAt, Sem.run_bind, run_underlying hu w', Result.andThen_ok, e1, Instr.slice, sliceBounds_run (P := P) (a := a) false (hc1 p1) (hc2 p2) p3 p4 p5 (Nat.le_refl _) w', Sem.run_pure, Option.isSome_none, Bool.false_eq_true, if_false]
    · rename_i mx' e n sz f hk hb
      obtain ⟨l, c1, hr, hc1⟩ := tnat_some h hr
      obtain ⟨h', c2, hr, hc2⟩ := tnat_some h hr
      obtain ⟨q, c3, hr, hc3⟩ := tnat_some h hr
      obtain ⟨h1, hr⟩ := cond_some hr
      simp only [Option.some.injEq, Prod.mk.injEq] at hr
      obtain ⟨rfl, rfl⟩ := hr
      obtain ⟨hx, p1, p2, p2', p3, p4, p5, p6⟩ := str_rel (ev_rel h x) hp
      simp only [Bool.and_eq_true, Nat.blt_eq] at h1
      have hsz : (tget tab e).sz = sz := Nat.eq_of_beq_eq_true h1.2.1
      rw [hb] at hx
      obtain ⟨ad, cap, e1, e2, e3⟩ := hx
      obtain ⟨z2, k2, hi1, hi2⟩ : ∃ z kk, hi = some z ∧ a.eval z = .int kk h' := by
        rcases hc2 p2 with ⟨e, _⟩ | e
        · rw [e] at h1; cases h1.1
        · exact e
      subst hi1
      obtain ⟨z3, k3, hm1, hm2⟩ : ∃ z kk, mx' = z ∧ a.eval z = .int kk q := by
        rcases hc3 p2' with ⟨e, _⟩ | ⟨z, kk, e, e'⟩
        · cases e
        · exact ⟨z, kk, Option.some.inj e, e'⟩
      subst hm1
      have hrun : ∀ w' : World, (Instr.sliceAt t (a.eval x) (lo.map a.eval) (some (a.eval z2)) (some (a.eval mx'))).run P w' = .ok (.slice (if q.toNat = l.toNat then ad else ad.map (·.add (l.toNat * sz))) (h'.toNat - l.toNat) (q.toNat - l.toNat)) w' := fun w' => by
        have hu := tab_slice hT hk
        have hs' : (sizeOf e).run P w' = .ok sz w' := by rw [← hsz]; exact (tab_size hT (by omega)).1
        simp only [Instr.sliceAt, Sem.run_bind, run_underlying hu w', Result.andThen_ok, e1, Instr.slice, sliceBounds_run3 (P := P) (a := a) true (hc1 p1) hi2 hm2 p3 p4 (Int.le_of_eq p5) p6 e2 w', hs', Sem.run_pure]
      refine ⟨_, fun w' _ => by simp only [execOp, ho, Option.map_some]; exact run_v _ _ _ (hrun w'), ?_⟩
      have hnn : h'.toNat - l.toNat = (h' - l).toNat := by omega
      have hnq : q.toNat - l.toNat = (h' - l).toNat := by omega
      rw [hnn, hnq]
      refine ⟨_, rfl, ?_⟩
      rcases e3 with rfl | ⟨b, o', rfl, g1, g2⟩
      · exact .inl (by omega)
      · by_cases hz : (h' - l).toNat = 0
        · exact .inl hz
        · refine .inr ⟨b, o' + l.toNat * sz, ?_, g1, fun i hi j hj => ?_⟩
          · rw [if_neg (by omega)]; simp [Addr.add_mid]
          · obtain ⟨u, q1, q2⟩ := g2 (l.toNat + i) (by omega) j hj
            exact ⟨u, by rw [← q1, Nat.add_mul]; congr 2; omega, q2⟩
    · cases hr
  | index t x y =>
    rw [ho] at hr
    unfold pread2 at hr
    dsimp only at hr
    split at hr
    · rename_i s kk i hk hb hb2
      simp only [Option.some.injEq, Prod.mk.injEq] at hr
      obtain ⟨rfl, rfl⟩ := hr
      obtain ⟨hx, hp⟩ := str_rel (ev_rel h x) hp
      obtain ⟨hy, hp⟩ := str_rel (ev_rel h y) hp
      rw [hb] at hx
      rw [hb2] at hy
      have e1 : a.eval x = .string s := hx
      have e2 : a.eval y = .int kk i := hy
      refine ⟨_, fun w' _ => ?_, rfl⟩
      simp only [execOp, ho, e1, e2]
      refine run_v _ _ _ ?_
      have hu := tab_string hT hk
      have e3 : s[i.toNat]? = some (s.data.getD i.toNat 0) := by
        have hlt : i.toNat < s.size := by omega
        have hlt2 : i.toNat < s.data.size := hlt
        simp only [Array.getD_eq_getD_getElem?, Array.getElem?_eq_getElem hlt2, Option.getD_some]
        exact getElem?_pos s i.toNat hlt
      simp only [Instr.index, asIntOf, Sem.run_bind, Sem.run_pure, Result.andThen_ok, run_underlying hu w', if_pos hp.1, e3]
    · rename_i n e m f kk i hk hb hb2
      split at hr
      · rename_i p hpp
        obtain ⟨hpos, hr⟩ := cond_some hr
        rw [Nat.blt_eq] at hpos
        rw [force_eq] at hr
        simp only [Option.some.injEq, Prod.mk.injEq] at hr
        obtain ⟨rfl, rfl⟩ := hr
        obtain ⟨hx, hp⟩ := str_rel (ev_rel h x) hp
        obtain ⟨hy, hp⟩ := str_rel (ev_rel h y) hp
        rw [hb] at hx
        rw [hb2] at hy
        obtain ⟨vs, e1, e2, e3⟩ := hx
        have e4 : a.eval y = .int kk i := hy
        obtain ⟨u, g1, g2⟩ := partP_sound (P := P) hT e2 e3 hpp
        refine ⟨u, fun w' _ => ?_, g2⟩
        simp only [execOp, ho, e1, e4]
        refine run_v _ _ _ ?_
        simp only [Instr.index, asIntOf, Sem.run_bind, Sem.run_pure, Result.andThen_ok, run_underlying (tab_array hT hk) w', if_pos hp, (tab_size hT (t := e) (w := w') (by omega)).1, g1]
      · cases hr
    · cases hr
  | _ => rw [ho] at hr; cases hr
end
section
variable {G : Pg2} {N : Nat} {Γ : Fr} {st : PSt} {K : Exit → PSt → Prop} {ops : Array Oper} {o : Oper} {rest : List Oper} {d : Nat} {r : PV} {pre : Prop}
theorem pop_read2 (hg : o.guard = none) (hd : o.dst = some d) (hN : Nat.blt d N = true) (hr : pread2 G.tab G.eqs st o.op = some (r, pre)) (hp : pre) (h : POps G.toPg N Γ ops rest (st.put d r) K) : POps G.toPg N Γ ops (o :: rest) st K := .mk fun ρ I a w hrel => by
  obtain ⟨v, hv, hvr⟩ := pread2_sound G.ok G.eqsOk hrel o hr hp
  have hw : Region.wanted o (yielded ops a.tmps) = true := by simp [Region.wanted, hg]
  simp only [wpList, hw, if_true]
  refine .inl ?_
  simp only [Oper.wp, hv w (SameOn.refl _ _ _ _ _), Oper.upon_value, hd]
  exact h.go ρ I _ w (hrel.put (by rwa [Nat.blt_eq] at hN) hvr)
theorem pop_guard2 {j : Nat} {want g : Bool} (hg : o.guard = some (j, want)) (hd : o.dst = some d) (hN : Nat.blt d N = true) (hgv : gval ops st j want = some g) (hr : pread2 G.tab G.eqs st o.op = some (r, pre)) (hp : g = true → pre) (h : POps G.toPg N Γ ops rest (st.put d (.opt g r)) K) : POps G.toPg N Γ ops (o :: rest) st K := .mk fun ρ I a w hrel => by
  have hw := gval_sound hrel hg hgv
  simp only [wpList, hw]
  cases g
  · simp only [Bool.false_eq_true, if_false, hd]
    exact h.go ρ I _ w (hrel.put (by rwa [Nat.blt_eq] at hN) ⟨by simp, fun _ => rfl⟩)
  · obtain ⟨v, hv, hvr⟩ := pread2_sound G.ok G.eqsOk hrel o hr (hp rfl)
    refine .inl ?_
    simp only [Oper.wp, hv w (SameOn.refl _ _ _ _ _), Oper.upon_value, hd]
    exact h.go ρ I _ w (hrel.put (by rwa [Nat.blt_eq] at hN) ⟨fun _ => hvr, by simp⟩)
end
end Go.Proofs.YtcefhgomkehokaaGreat
namespace Go.Proofs.YtcefhgomkehokaaGreat
open Go.RowKit
def maskM (H : List Nat) : Nat → List Row → List Row
  | _, [] => []
  | l, r :: m => cond (H.any (Nat.beq l)) r ⟨.dead, r.one, r.n, r.sz, r.f⟩ :: maskM H (l + 1) m
theorem maskM_length (H : List Nat) : ∀ (m : List Row) (l : Nat), (maskM H l m).length = m.length
  | [], _ => rfl
  | _ :: m, l => by simp [maskM, maskM_length H m]
theorem maskM_get (H : List Nat) : ∀ (m : List Row) (s l : Nat) (r : Row), (maskM H s m)[l]? = some r → r.s.live → m[l]? = some r ∧ s + l ∈ H
  | [], _, _, _, h, _ => by simp [maskM] at h
  | r0 :: m, s, 0, r, h, hl => by
    simp only [maskM, List.getElem?_cons_zero, Option.some.injEq] at h
    cases ha : H.any (Nat.beq s)
    · rw [ha] at h; subst h; exact hl.elim
    · rw [ha] at h; subst h; exact ⟨by simp, (any_beq H s).1 ha⟩
  | r0 :: m, s, l + 1, r, h, hl => by
    simp only [maskM, List.getElem?_cons_succ] at h
    obtain ⟨h1, h2⟩ := maskM_get H m (s + 1) l r h hl
    exact ⟨by simpa using h1, by rw [show s + (l + 1) = s + 1 + l by omega]; exact h2⟩
theorem maskM_mp (H : List Nat) : ∀ (m : List Row) (s l : Nat) (r : Row), (maskM H s m)[l]? = some r → r.s = .mp → m[l]? = some r
  | [], _, _, _, h, _ => by simp [maskM] at h
  | r0 :: m, s, 0, r, h, hl => by
    simp only [maskM, List.getElem?_cons_zero, Option.some.injEq] at h
    cases ha : H.any (Nat.beq s)
    · rw [ha] at h; subst h; cases hl
    · rw [ha] at h; subst h; simp
  | r0 :: m, s, l + 1, r, h, hl => by
    simp only [maskM, List.getElem?_cons_succ] at h
    have h1 := maskM_mp H m (s + 1) l r h hl
    simpa using h1
structure AnyInv (HB : Nat → Prop) (w1 : World) (H : List Nat) (ni : Bool) (st : PSt) (ρ : Nat → Loc) (I : Nat → Prop) (w : World) : Prop where
  same : ∀ b, HB b → w.heap[b]? = w1.heap[b]?
  lt : ∀ b, HB b → b < w.heap.size
  held : ∀ l r, l ∈ H → st.mem[l]? = some r → r.s.live → HB (ρ l).b
  free : ∀ l r, l ∉ H → st.mem[l]? = some r → r.s.isOwn → ¬ HB (ρ l).b
  imm : ni = true → ∀ b, I b → HB b
structure PAny (G : Pg2) (N : Nat) (Γ : Fr) (ops : Array Oper) (H : List Nat) (ni : Bool) (fuel : Nat) (listed : Array Bool) (st : PSt) (K : Exit → PSt → Prop) : Prop where
  go : ∀ (HB : Nat → Prop) (w1 : World) ρ I a w, Rel N Γ st ρ I a w → AnyInv HB w1 H ni st ρ I w → wpAnyH G.P .any ops (Qf N Γ K) (fun w' => ∀ b, HB b → w'.heap[b]? = w1.heap[b]?) fuel listed a w
section
variable {G : Pg2} {N : Nat} {Γ : Fr} {st : PSt} {K : Exit → PSt → Prop} {ops : Array Oper} {o : Oper} {d : Nat} {r : PV} {pre : Prop} {H : List Nat} {ni : Bool} {fuel : Nat} {listed : Array Bool} {m : List Row}
theorem any_start {id : Nat} (H : List Nat) (n : Nat) (hn : ops.size = n) (h : PAny G N Γ ops H true n (Array.replicate n false) st K) : PWp G.toPg N Γ (.region id ops true) st K := .mk fun ρ I a w hr => by
  subst hn
  have hx : Ext w { w with drawn := w.drawn + 1 } := ⟨rfl, rfl, rfl, Nat.le_refl _, fun _ _ => rfl⟩
  have hr' := hr.ext hx (I' := I) (fun _ h => h) (fun _ h => .inl h)
  refine wp_region_held G.wide (h.go (fun b => I b ∨ ∃ l r, l ∈ H ∧ st.mem[l]? = some r ∧ r.s.live ∧ b = (ρ l).b) _ ρ I a _ hr' ⟨fun _ _ => rfl, ?_, ?_, ?_, ?_⟩)
  · rintro b (hb | ⟨l, r, _, hl, hs, rfl⟩)
    · exact hr'.fr.m.lt b hb
    · exact hr'.lt hl hs
  · exact fun l r hl hr hs => .inr ⟨l, r, hl, hr, hs, rfl⟩
  · rintro l r hl hr ho (hb | ⟨l', r', hl', hr2, hs', he⟩)
    · exact hr'.fr.m.mine l r hr ho hb
    · by_cases e : l = l'
      · subst e; exact hl hl'
      · exact hr'.fr.m.apart l l' r r' e hr hr2 (RS.live_of_own ho) hs' he
  · exact fun _ b hb => .inl hb
theorem any_done (hr : Region.ready .any ops listed = []) (h : K .normal st) : PAny G N Γ ops H ni fuel listed st K := .mk fun HB w1 ρ I a w hrel hinv =>
  wpAnyH_done hr ⟨by simp, st, ρ, I, h, hrel⟩ fuel
theorem hQ_any {v : Value} {dst : Option Tmp} : ∀ (c : List PanicEntry) (a : Act) (w : World), Qf N Γ K (.panic c) (a.put dst v) w → Qf N Γ K (.panic c) a w := fun c _ _ h => absurd rfl (h.1 c)
theorem AnyInv.put {HB : Nat → Prop} {w1 : World} {ρ : Nat → Loc} {I : Nat → Prop} {w : World} (h : AnyInv HB w1 H ni st ρ I w) (d : Nat) (p : PV) : AnyInv HB w1 H ni (st.put d p) ρ I w := ⟨h.same, h.lt, h.held, h.free, h.imm⟩
theorem Rel.mask {ρ : Nat → Loc} {I : Nat → Prop} {a : Act} {w : World} (h : Rel N Γ st ρ I a w) (H : List Nat) : Rel N Γ ⟨st.tm, maskM H 0 st.mem⟩ ρ I a w := by
  have up : ∀ {p : PV} {v : Value}, VRel st.mem.length ρ I w p v → VRel (maskM H 0 st.mem).length ρ I w p v := fun hv => by rw [maskM_length]; exact hv
  refine ⟨⟨⟨fun l r hl hs => ?_, fun l l' r r' hne hl hl' hs hs' => ?_, fun l r hl ho hb => ?_, fun l r hl hi => ?_, h.fr.m.lt, fun l r hl hm => ?_, fun l l' r r' hne hl hl' hs hs' => ?_⟩, h.fr.os, h.fr.tape, h.fr.output, h.fr.size, h.fr.block, h.fr.shape, h.fr.old, h.fr.new, fun l r hl ho hlt => ?_, fun l r hl ho hk => ?_, by rw [maskM_length]; exact h.fr.k0, h.fr.ρ0, fun l r hl hm hk => ?_, h.fr.gl⟩, h.defers, h.size, fun t => up (h.slot t)⟩
  · obtain ⟨e1, _⟩ := maskM_get H st.mem 0 l r hl hs
    obtain ⟨h1, cs, T, h2, h3⟩ := h.fr.m.row l r e1 hs
    exact ⟨h1, cs, T, h2, fun i hi j hj => by obtain ⟨u, g1, g2, g3⟩ := h3 i hi j hj; exact ⟨u, g1, g2, up g3⟩⟩
  · exact h.fr.m.apart l l' r r' hne (maskM_get H _ 0 l r hl hs).1 (maskM_get H _ 0 l' r' hl' hs').1 hs hs'
  · exact h.fr.m.mine l r (maskM_get H _ 0 l r hl (RS.live_of_own ho)).1 ho hb
  · exact h.fr.m.imm l r (maskM_get H _ 0 l r hl (by rw [hi]; trivial)).1 hi
  · obtain ⟨g1, g2⟩ := h.fr.m.side l r (maskM_mp H _ 0 l r hl hm) hm
    exact ⟨g1, g2.up (Nat.le_refl _) rfl (.refl _) fun i hi j hj v hv => up hv⟩
  · exact h.fr.m.sap l l' r r' hne (maskM_mp H _ 0 l r hl hs) (maskM_mp H _ 0 l' r' hl' hs') hs hs'
  · exact h.fr.own l r (maskM_get H _ 0 l r hl (RS.live_of_own ho)).1 ho hlt
  · exact h.fr.fresh l r (maskM_get H _ 0 l r hl (RS.live_of_own ho)).1 ho hk
  · exact h.fr.sfresh l r (maskM_mp H _ 0 l r hl hm) hm hk
theorem sameOn_any {HB : Nat → Prop} {w1 : World} {ρ : Nat → Loc} {I : Nat → Prop} {w : World} (h : AnyInv HB w1 H ni st ρ I w) {nb : Bool} (hnb : nb = true → ni = true) {w' : World} (hw : ∀ b, HB b → w'.heap[b]? = w1.heap[b]?) : SameOn nb ρ I (maskM H 0 st.mem) w w' :=
  ⟨fun hn b hb => by rw [hw b (h.imm (hnb hn) b hb), h.same b (h.imm (hnb hn) b hb)], fun l r hl hs => by
    obtain ⟨e1, e2⟩ := maskM_get H st.mem 0 l r hl hs
    have hb := h.held l r (by simpa using e2) e1 hs
    rw [hw _ hb, h.same _ hb]⟩
theorem any_take (i : Nat) (hi : ops[i]? = some o) (hs : Region.noSelect ops = true) (hf : Region.free .any ops listed i = true) (hready : (Region.ready .any ops listed).contains i = true) (hg : o.guard = none) (hd : o.dst = some d) (hN : Nat.blt d N = true)
    (hr : pread G.tab ⟨st.tm, maskM H 0 st.mem⟩ o.op = some (r, pre)) (hni : (needI st o.op && !ni) = false) (hp : pre) (h : PAny G N Γ ops H ni fuel (listed.setIfInBounds i true) (st.put d r) K) : PAny G N Γ ops H ni (fuel + 1) listed st K := .mk fun HB w1 ρ I a w hrel hinv => by
  obtain ⟨v, hv, hvr⟩ := pread_sound G.ok (hrel.mask H) o hr hp
  simp only [maskM_length] at hvr
  refine wpAnyH_take hi hs hf hready hQ_any (v := v) (.inl ⟨by simp [Region.wanted, hg], fun w' hw' => hv w' (sameOn_any hinv (fun hn => ?_) hw')⟩) hinv.same ?_
  · have : needI st o.op = true := by
      cases ho : o.op <;> rw [ho] at hn <;> exact hn
    rw [this] at hni; cases ni <;> simp_all
  · simp only [hd]
    exact h.go HB w1 ρ I _ w (hrel.put (by rwa [Nat.blt_eq] at hN) hvr) (hinv.put d r)
theorem any_take2 (i : Nat) (hi : ops[i]? = some o) (hs : Region.noSelect ops = true) (hf : Region.free .any ops listed i = true) (hready : (Region.ready .any ops listed).contains i = true) (hg : o.guard = none) (hd : o.dst = some d) (hN : Nat.blt d N = true)
    (hr : pread2 G.tab G.eqs ⟨st.tm, maskM H 0 st.mem⟩ o.op = some (r, pre)) (hp : pre) (h : PAny G N Γ ops H ni fuel (listed.setIfInBounds i true) (st.put d r) K) : PAny G N Γ ops H ni (fuel + 1) listed st K := .mk fun HB w1 ρ I a w hrel hinv => by
  obtain ⟨v, hv, hvr⟩ := pread2_sound G.ok G.eqsOk (hrel.mask H) o hr hp
  simp only [maskM_length] at hvr
  refine wpAnyH_take hi hs hf hready hQ_any (v := v) (.inl ⟨by simp [Region.wanted, hg], fun w' hw' => hv w' (sameOn_any hinv (fun hn => by cases hn) hw')⟩) hinv.same ?_
  simp only [hd]
  exact h.go HB w1 ρ I _ w (hrel.put (by rwa [Nat.blt_eq] at hN) hvr) (hinv.put d r)
theorem any_takeg {j : Nat} {want g : Bool} (i : Nat) (hi : ops[i]? = some o) (hs : Region.noSelect ops = true) (hf : Region.free .any ops listed i = true) (hready : (Region.ready .any ops listed).contains i = true) (hg : o.guard = some (j, want)) (hd : o.dst = some d) (hN : Nat.blt d N = true) (hgv : gval ops st j want = some g)
    (hr : pread G.tab ⟨st.tm, maskM H 0 st.mem⟩ o.op = some (r, pre)) (hni : (needI st o.op && !ni) = false) (hp : g = true → strP r pre) (h : PAny G N Γ ops H ni fuel (listed.setIfInBounds i true) (st.put d (.opt g (str r))) K) : PAny G N Γ ops H ni (fuel + 1) listed st K := .mk fun HB w1 ρ I a w hrel hinv => by
  have hw := gval_sound hrel hg hgv
  cases g
  · refine wpAnyH_take hi hs hf hready hQ_any (v := undef) (.inr ⟨hw, rfl⟩) hinv.same ?_
    simp only [hd]
    exact h.go HB w1 ρ I _ w (hrel.put (by rwa [Nat.blt_eq] at hN) ⟨by simp, fun _ => rfl⟩) (hinv.put d _)
  · obtain ⟨v, hv, hvr⟩ := pread_sound G.ok (hrel.mask H) o hr (strP_pre (hp rfl))
    have hvr := (str_rel hvr (hp rfl)).1
    simp only [maskM_length] at hvr
    refine wpAnyH_take hi hs hf hready hQ_any (v := v) (.inl ⟨hw, fun w' hw' => hv w' (sameOn_any hinv (fun hn => ?_) hw')⟩) hinv.same ?_
    · have : needI st o.op = true := by
        cases ho : o.op <;> rw [ho] at hn <;> exact hn
      rw [this] at hni; cases ni <;> simp_all
    · simp only [hd]
      exact h.go HB w1 ρ I _ w (hrel.put (by rwa [Nat.blt_eq] at hN) ⟨fun _ => hvr, by simp⟩) (hinv.put d _)
structure Chg (st : PSt) (ρ : Nat → Loc) (I : Nat → Prop) (w : World) (ch : List Nat) (nk : Bool) (st' : PSt) (ρ' : Nat → Loc) (I' : Nat → Prop) (w' : World) : Prop where
  size : w.heap.size ≤ w'.heap.size
  same : ∀ b, b < w.heap.size → (∀ (l : Nat) (r : Row), l ∈ ch → st.mem[l]? = some r → r.s.isOwn → b ≠ (ρ l).b) → w'.heap[b]? = w.heap[b]?
  loc : ∀ l, l < st.mem.length → ρ' l = ρ l
  imm : nk = true → ∀ b, I' b → I b
  live : ∀ l r', st'.mem[l]? = some r' → r'.s.live → (l < st.mem.length ∧ ∃ r, st.mem[l]? = some r ∧ r.s.live) ∨ (st.mem.length ≤ l ∧ (w.heap.size ≤ (ρ' l).b ∨ ∃ l0 r0, l0 ∈ ch ∧ st.mem[l0]? = some r0 ∧ r0.s.isOwn ∧ (ρ' l).b = (ρ l0).b))
  own : ∀ l r', st'.mem[l]? = some r' → r'.s.isOwn → (l < st.mem.length ∧ ∃ r, st.mem[l]? = some r ∧ r.s.isOwn) ∨ (st.mem.length ≤ l ∧ (w.heap.size ≤ (ρ' l).b ∨ ∃ l0 r0, l0 ∈ ch ∧ st.mem[l0]? = some r0 ∧ r0.s.isOwn ∧ (ρ' l).b = (ρ l0).b))
structure PStep (G : Pg2) (N : Nat) (Γ : Fr) (ops : Array Oper) (o : Oper) (st : PSt) (ch : List Nat) (nk : Bool) (K' : PSt → Prop) : Prop where
  go : ∀ ρ I a w, Rel N Γ st ρ I a w → ∀ Q : Exit → Act → World → Prop, if Region.wanted o (yielded ops a.tmps) then o.wp G.P a w (fun a' w' => ∃ st' ρ' I', K' st' ∧ Rel N Γ st' ρ' I' a' w' ∧ Chg st ρ I w ch nk st' ρ' I' w') Q else ∃ st' ρ' I', K' st' ∧ Rel N Γ st' ρ' I' (a.put o.dst undef) w ∧ Chg st ρ I w ch nk st' ρ' I' w
theorem lt_get {m : List Row} {l : Nat} {r : Row} (h : m[l]? = some r) : l < m.length := by
  by_cases hlt : l < m.length
  · exact hlt
  · rw [List.getElem?_eq_none (by omega)] at h; cases h
theorem Chg.refl {ρ : Nat → Loc} {I : Nat → Prop} {w w' : World} (hx : Ext w w') (d : Nat) (p : PV) : Chg st ρ I w [] true (st.put d p) ρ I w' :=
  ⟨hx.size, fun b hb _ => hx.block b hb, fun _ _ => rfl, fun _ _ h => h, fun l r hl hs => .inl ⟨lt_get hl, r, hl, hs⟩, fun l r hl hs => .inl ⟨lt_get hl, r, hl, hs⟩⟩
theorem AnyInv.step {HB : Nat → Prop} {w1 : World} {ρ ρ' : Nat → Loc} {I I' : Nat → Prop} {w w' : World} {st' : PSt} {ch : List Nat} {nk : Bool} (h : AnyInv HB w1 H ni st ρ I w) (hc : Chg st ρ I w ch nk st' ρ' I' w') (hch : ∀ l, l ∈ ch → l ∉ H) (hH : ∀ l, l ∈ H → l < st.mem.length) : AnyInv HB w1 H (ni && nk) st' ρ' I' w' := by
  have hs : ∀ b, HB b → w'.heap[b]? = w1.heap[b]? := fun b hb => by
    rw [hc.same b (h.lt b hb) (fun l r hl hr ho e => ?_)]
    · exact h.same b hb
    · exact h.free l r (hch l hl) hr ho (e ▸ hb)
  refine ⟨hs, fun b hb => Nat.lt_of_lt_of_le (h.lt b hb) hc.size, fun l r hl hr hlive => ?_, fun l r hl hr ho hb => ?_, fun hn b hb => ?_⟩
  · rcases hc.live l r hr hlive with ⟨hlt, r0, h0, hs0⟩ | ⟨hge, _⟩
    · rw [hc.loc l hlt]; exact h.held l r0 hl h0 hs0
    · exact absurd (hH l hl) (by omega)
  · rcases hc.own l r hr ho with ⟨hlt, r0, h0, hs0⟩ | ⟨hge, hfr⟩
    · rw [hc.loc l hlt] at hb; exact h.free l r0 hl h0 hs0 hb
    · rcases hfr with hfr | ⟨l0, r0, k1, k2, k3, k4⟩
      · exact absurd (h.lt _ hb) (by omega)
      · rw [k4] at hb; exact h.free l0 r0 (hch l0 k1) k2 k3 hb
  · simp only [Bool.and_eq_true] at hn
    exact h.imm hn.1 b (hc.imm hn.2 b hb)
def chB (H : List Nat) : List Nat → Bool
  | [] => true
  | l :: ch => !H.any (Nat.beq l) && chB H ch
theorem chB_spec {H : List Nat} : ∀ {ch : List Nat}, chB H ch = true → ∀ l, l ∈ ch → l ∉ H
  | [], _, l, hl, _ => by simp at hl
  | x :: ch, h, l, hl, hm => by
    rw [chB, Bool.and_eq_true] at h
    rcases List.mem_cons.1 hl with rfl | hl
    · rw [(any_beq H l).2 hm] at h; simp at h
    · exact chB_spec h.2 l hl hm
def inB (n : Nat) : List Nat → Bool
  | [] => true
  | l :: r => Nat.blt l n && inB n r
theorem inB_spec {n : Nat} : ∀ (H : List Nat), inB n H = true → ∀ l, l ∈ H → l < n
  | [], _, l, hl => by simp at hl
  | x :: r, h, l, hl => by
    simp only [inB, Bool.and_eq_true, Nat.blt_eq] at h
    rcases List.mem_cons.1 hl with rfl | hl
    · exact h.1
    · exact inB_spec r h.2 l hl
theorem any_one (i : Nat) (hi : ops[i]? = some o) (hready : Region.ready .any ops listed = [i]) {ch : List Nat} {nk : Bool} (hchb : chB H ch = true) (hHb : inB st.mem.length H = true) (hstep : PStep G N Γ ops o st ch nk (fun st' => PAny G N Γ ops H (ni && nk) fuel (listed.setIfInBounds i true) st' K)) : PAny G N Γ ops H ni (fuel + 1) listed st K := .mk fun HB w1 ρ I a w hrel hinv => by
  have hch := chB_spec hchb
  have hH := inB_spec H hHb
  refine wpAnyH_all hready (by simp) (fun j hj => ?_)
  have : j = i := by simpa using hj
  subst this
  unfold wpOp
  simp only [hi]
  have hs := hstep.go ρ I a w hrel (Qf N Γ K)
  by_cases hw : Region.wanted o (yielded ops a.tmps) = true
  · rw [if_pos hw] at hs ⊢
    refine .inl (Oper.wp_mono (fun a' w' => ?_) hs)
    rintro ⟨st', ρ', I', hk, hrel', hc⟩
    have hinv' := hinv.step hc hch hH
    exact ⟨hinv'.same, hk.go HB w1 ρ' I' a' w' hrel' hinv'⟩
  · rw [if_neg hw] at hs ⊢
    obtain ⟨st', ρ', I', hk, hrel', hc⟩ := hs
    have hinv' := hinv.step hc hch hH
    exact ⟨hinv'.same, hk.go HB w1 ρ' I' _ w hrel' hinv'⟩
theorem chg_new {ρ ρ' : Nat → Loc} {I : Nat → Prop} {a : Act} {w w' : World} {v : Value} (hmade : Made N Γ st ρ I a w r m v w' ρ') (d : Nat) : Chg st ρ I w [] true (PSt.put ⟨st.tm, m⟩ d r) ρ' I w' := by
  obtain ⟨row, hmm⟩ := hmade.mem
  have hsplit : ∀ l (r' : Row), m[l]? = some r' → (l < st.mem.length ∧ st.mem[l]? = some r') ∨ l = st.mem.length := fun l r' hl => by
    rw [hmm] at hl
    by_cases hlt : l < st.mem.length
    · rw [List.getElem?_append_left hlt] at hl; exact .inl ⟨hlt, hl⟩
    · have := lt_get hl; simp at this; exact .inr (by omega)
  refine ⟨hmade.ext.size, fun b hb _ => hmade.ext.block b hb, hmade.same, fun _ _ h => h, fun l r' hl hs => ?_, fun l r' hl hs => ?_⟩
  · rcases hsplit l r' hl with ⟨h1, h2⟩ | rfl
    · exact .inl ⟨h1, r', h2, hs⟩
    · exact .inr ⟨Nat.le_refl _, .inl (by rw [hmade.new]; exact Nat.le_refl _)⟩
  · rcases hsplit l r' hl with ⟨h1, h2⟩ | rfl
    · exact .inl ⟨h1, r', h2, hs⟩
    · exact .inr ⟨Nat.le_refl _, .inl (by rw [hmade.new]; exact Nat.le_refl _)⟩
theorem pst_new {K' : PSt → Prop} (hg : o.guard = none) (hd : o.dst = some d) (hN : Nat.blt d N = true) (hr : pnew G.tab st o.op = some (r, m, pre)) (hp : pre) (h : K' (PSt.put ⟨st.tm, m⟩ d r)) : PStep G N Γ ops o st [] true K' := .mk fun ρ I a w hrel Q => by
  obtain ⟨v, w', ρ', hv, hmade⟩ := pnew_sound hrel o hr hp
  have hw : Region.wanted o (yielded ops a.tmps) = true := by simp [Region.wanted, hg]
  rw [if_pos hw]
  simp only [Oper.wp, hv, Oper.upon_value, hd]
  exact ⟨_, ρ', I, h, hmade.rel.put (by rwa [Nat.blt_eq] at hN) hmade.val, chg_new hmade d⟩
theorem pst_store {K' : PSt → Prop} {l : Nat} (hg : o.guard = none) (hd : o.dst = none) (hr : pstore G.tab st o.op = some (m, pre)) (hl : stL st o.op = some l) (hp : pre) (h : K' ⟨st.tm, m⟩) : PStep G N Γ ops o st [l] true K' := .mk fun ρ I a w hrel Q => by
  obtain ⟨w', l', row, hv, hm, hsl, hset, hown, hsz, ⟨r, hr, ho⟩, hoth⟩ := pstore_sound hrel o hr hp
  have hw : Region.wanted o (yielded ops a.tmps) = true := by simp [Region.wanted, hg]
  rw [if_pos hw]
  simp only [Oper.wp, hv, Oper.upon_skip, hd, Act.put]
  have e : l' = l := by rw [hsl] at hl; simpa using hl
  subst e
  have hsplit : ∀ k (r' : Row), m[k]? = some r' → (k < st.mem.length ∧ (st.mem[k]? = some r' ∨ k = l')) := fun k r' hk => by
    rw [hset] at hk
    have := lt_get hk
    refine ⟨by simpa using this, ?_⟩
    by_cases he : k = l'
    · exact .inr he
    · rw [List.getElem?_set_ne (Ne.symm he)] at hk; exact .inl hk
  refine ⟨_, ρ, I, h, hm, Nat.le_of_eq hsz.symm, fun b hb hne => hoth b (hne l' r (by simp) hr ho), fun _ _ => rfl, fun _ _ h => h, fun k r' hk hs => ?_, fun k r' hk hs => ?_⟩
  · obtain ⟨h1, h2 | rfl⟩ := hsplit k r' hk
    · exact .inl ⟨h1, r', h2, hs⟩
    · exact .inl ⟨h1, r, hr, RS.live_of_own ho⟩
  · obtain ⟨h1, h2 | rfl⟩ := hsplit k r' hk
    · exact .inl ⟨h1, r', h2, hs⟩
    · exact .inl ⟨h1, r, hr, ho⟩
theorem pst_call {K' : PSt → Prop} {f : FuncId} {x : Operand} {args : Array Operand} {tys : Array TypeId} {c : Nat → PV} {qs : List PV} {post : PV → Prop} (L : List Nat) (hg : o.guard = none) (hd : o.dst = some d) (hN : Nat.blt d N = true) (ho : o.op = .call ⟨.value x, args, tys⟩) (hx : st.ev x = .clo f 0 c)
    (hc : PureC G.P f qs post) (ha : ArgsOk st.mem L (args.toList.map st.ev) qs) (h : ∀ r, post r → Sc r ∧ K' (st.put d r)) : PStep G N Γ ops o st [] true K' := .mk fun ρ I a w hrel Q => by
  have hw : Region.wanted o (yielded ops a.tmps) = true := by simp [Region.wanted, hg]
  rw [if_pos hw]
  have hxe := ev_rel hrel x
  rw [hx] at hxe
  obtain ⟨cap, e1, e2, _⟩ := hxe
  have e3 : cap = #[] := by simpa using e2
  subst e3
  simp only [Oper.wp, call_run hc.1 ho e1, Oper.upon_enter]
  have hA := args_sound hrel.fr.m _ qs (args.toList.map a.eval) ha (fun i hi => evs_rel hrel args.toList i hi) (by simp)
  have hcall := hc.2 ρ (ASet ρ I st.mem L) w (args.toList.map a.eval) (fun b hb => by
    rcases hb with hb | ⟨l, r, _, hr, hs, rfl⟩
    · exact hrel.fr.m.lt b hb
    · exact hrel.lt hr hs) (hrel.fr.gl.sub fun b hb => .inl hb) hA
  have eargs : (args.map a.eval ++ #[]) = (args.toList.map a.eval).toArray := by apply Array.ext'; simp
  rw [eargs]
  refine hcall.mono ?_
  rintro e w' ⟨v, r, rfl, hpost, hext, hv⟩
  obtain ⟨hsc, hk⟩ := h r hpost
  simp only [hd]
  have hrel' := hrel.ext hext (I' := I) (fun _ h => h) (fun _ h => .inl h)
  exact ⟨_, ρ, I, hk, hrel'.put (by rwa [Nat.blt_eq] at hN) (Sc.rel r 0 _ v hsc hv), Chg.refl hext d r⟩
theorem pst_callg {K' : PSt → Prop} {j : Nat} {want g : Bool} {f : FuncId} {x : Operand} {args : Array Operand} {tys : Array TypeId} {c : Nat → PV} {qs : List PV} {post : PV → Prop} (L : List Nat) (hg : o.guard = some (j, want)) (hd : o.dst = some d) (hN : Nat.blt d N = true) (hgv : gval ops st j want = some g) (ho : o.op = .call ⟨.value x, args, tys⟩) (hx : st.ev x = .clo f 0 c)
    (hc : g = true → PureC G.P f qs post) (ha : g = true → ArgsOk st.mem L (args.toList.map st.ev) qs) (h : g = true → ∀ r, post r → Sc r ∧ K' (st.put d (.opt g r))) (hr0 : g = false → ∃ r, K' (st.put d (.opt g r))) : PStep G N Γ ops o st [] true K' := .mk fun ρ I a w hrel Q => by
  have hw := gval_sound hrel hg hgv
  cases g
  · obtain ⟨r, hk⟩ := hr0 rfl
    rw [hw]
    simp only [Bool.false_eq_true, if_false, hd]
    exact ⟨_, ρ, I, hk, hrel.put (by rwa [Nat.blt_eq] at hN) ⟨by simp, fun _ => rfl⟩, Chg.refl (Ext.refl w) d _⟩
  · rw [hw]
    simp only [if_true]
    have hc := hc rfl
    have ha := ha rfl
    have hxe := ev_rel hrel x
    rw [hx] at hxe
    obtain ⟨cap, e1, e2, _⟩ := hxe
    have e3 : cap = #[] := by simpa using e2
    subst e3
    simp only [Oper.wp, call_run hc.1 ho e1, Oper.upon_enter]
    have hA := args_sound hrel.fr.m _ qs (args.toList.map a.eval) ha (fun i hi => evs_rel hrel args.toList i hi) (by simp)
    have hcall := hc.2 ρ (ASet ρ I st.mem L) w (args.toList.map a.eval) (fun b hb => by
      rcases hb with hb | ⟨l, r, _, hr, hs, rfl⟩
      · exact hrel.fr.m.lt b hb
      · exact hrel.lt hr hs) (hrel.fr.gl.sub fun b hb => .inl hb) hA
    have eargs : (args.map a.eval ++ #[]) = (args.toList.map a.eval).toArray := by apply Array.ext'; simp
    rw [eargs]
    refine hcall.mono ?_
    rintro e w' ⟨v, r, rfl, hpost, hext, hv⟩
    obtain ⟨hsc, hk⟩ := h rfl r hpost
    simp only [hd]
    have hrel' := hrel.ext hext (I' := I) (fun _ h => h) (fun _ h => .inl h)
    exact ⟨_, ρ, I, hk, hrel'.put (by rwa [Nat.blt_eq] at hN) ⟨fun _ => Sc.rel r 0 _ v hsc hv, by simp⟩, Chg.refl hext d _⟩
theorem pst_read {K' : PSt → Prop} (hg : o.guard = none) (hd : o.dst = some d) (hN : Nat.blt d N = true) (hr : pread G.tab st o.op = some (r, pre)) (hp : pre) (h : K' (st.put d r)) : PStep G N Γ ops o st [] true K' := .mk fun ρ I a w hrel Q => by
  obtain ⟨v, hv, hvr⟩ := pread_sound G.ok hrel o hr hp
  have hw : Region.wanted o (yielded ops a.tmps) = true := by simp [Region.wanted, hg]
  rw [if_pos hw]
  simp only [Oper.wp, hv w (SameOn.refl _ _ _ _ _), Oper.upon_value, hd]
  exact ⟨_, ρ, I, h, hrel.put (by rwa [Nat.blt_eq] at hN) hvr, Chg.refl (Ext.refl w) d r⟩
end
open Go.RowKit
abbrev vi (n : Int) : PV := .val (.int .i64 n)
abbrev vu (n : Int) : PV := .val (.int .u64 n)
abbrev vb (b : Bool) : PV := .val (.bool b)
abbrev vs (s : ByteArray) : PV := .val (.string s)
theorem eqI {k : IntKind} {a b : Int} (h : a = b) : PV.val (.int k a) = PV.val (.int k b) := by rw [h]
theorem eqB {a b : Bool} (h : a = b) : PV.val (.bool a) = PV.val (.bool b) := by rw [h]
def allB : Nat → (Nat → Bool) → Bool
  | 0, _ => true
  | n + 1, f => allB n f && f n
theorem allB_spec : ∀ (n : Nat) (f : Nat → Bool), allB n f = true → ∀ i, i < n → f i = true
  | 0, _, _, i, h => by omega
  | n + 1, f, h, i, hi => by
    simp only [allB, Bool.and_eq_true] at h
    by_cases e : i = n
    · subst e; exact h.2
    · exact allB_spec n f h.1 i (by omega)
def clB : PV → Bool
  | .junk => true
  | .val _ => true
  | .agg n f => allB n fun i => clB (f i)
  | .tup n f => allB n fun i => clB (f i)
  | .vsl _ _ _ => true
  | .csl _ _ _ => true
  | .vmap _ => true
  | .vptr _ _ _ _ _ => true
  | .opt _ p => clB p
  | .clo _ n c => allB n fun i => clB (c i)
  | _ => false
theorem clB_spec : ∀ p : PV, clB p = true → Cl p := by
  intro p
  induction p with
  | agg n f ih => intro h i hi; exact ih i (allB_spec n _ h i hi)
  | tup n f ih => intro h i hi; exact ih i (allB_spec n _ h i hi)
  | clo g n f ih => intro h i hi; exact ih i (allB_spec n _ h i hi)
  | opt b p ih => intro h; exact ih h
  | ptr => intro h; cases h
  | lsl => intro h; cases h
  | mref => intro h; cases h
  | _ => intro _; trivial
def scB : PV → Bool
  | .junk => true
  | .val _ => true
  | .agg n f => allB n fun i => scB (f i)
  | .tup n f => allB n fun i => scB (f i)
  | .opt _ p => scB p
  | _ => false
theorem scB_spec : ∀ p : PV, scB p = true → Sc p := by
  intro p
  induction p with
  | agg n f ih => intro h i hi; exact ih i (allB_spec n _ h i hi)
  | tup n f ih => intro h i hi; exact ih i (allB_spec n _ h i hi)
  | opt b p ih => intro h; exact ih h
  | junk => intro _; trivial
  | val => intro _; trivial
  | _ => intro h; cases h
def clBL : List PV → Bool
  | [] => true
  | p :: l => clB p && clBL l
theorem args_cl {mem : List Row} {L : List Nat} : ∀ (ps : List PV), clBL ps = true → ArgsOk mem L ps ps
  | [], _ => trivial
  | p :: ps, h => by
    simp only [clBL, Bool.and_eq_true] at h
    exact ⟨argCl (clB_spec p h.1), args_cl ps h.2⟩
theorem kretv {tab : List TI} {res : List ResultVar} {post : PV → Prop} {st : PSt} {ps : List PV} {pre : Prop} (h1 : presl tab st res = some (ps, pre)) (h2 : pre) (h3 : clBL ps = true) (h4 : post (pack ps)) : Kret tab res post .ret st := kret [] h1 h2 (args_cl ps h3) h4
def strPL : List PV → Prop
  | [] => True
  | p :: l => strP p (strPL l)
theorem args_str {mem : List Row} {L : List Nat} : ∀ (ps : List PV), strPL ps → clBL (ps.map str) = true → ArgsOk mem L ps (ps.map str)
  | [], _, _ => trivial
  | p :: ps, h, hc => by
    simp only [List.map_cons, clBL, Bool.and_eq_true] at hc
    cases p with
    | opt g q => exact ⟨argOpt h.1 (argCl (clB_spec _ hc.1)), args_str ps h.2 hc.2⟩
    | _ => exact ⟨argCl (clB_spec _ hc.1), args_str ps h hc.2⟩
section
variable {G : Pg} {N : Nat} {Γ : Fr} {st : PSt} {K : Exit → PSt → Prop} {ops : Array Oper} {o : Oper} {rest : List Oper} {d : Nat} {f : FuncId} {x : Operand} {args : Array Operand} {tys : Array TypeId} {c : Nat → PV} {qs : List PV} {X : PV}
theorem pop_callv (hg : o.guard = none) (hd : o.dst = some d) (hN : Nat.blt d N = true) (ho : o.op = .call ⟨.value x, args, tys⟩) (hx : st.ev x = .clo f 0 c) (hc : PureC G.P f qs (fun r => r = X)) (hq : args.toList.map st.ev = qs) (hcl : clBL qs = true) (hs : scB X = true)
    (h : POps G N Γ ops rest (st.put d X) K) : POps G N Γ ops (o :: rest) st K :=
  pop_call [] hg hd hN ho hx hc (by subst hq; exact args_cl _ hcl) (fun r hr => by subst hr; exact ⟨scB_spec _ hs, h⟩)
theorem pop_callgv {j : Nat} {want g : Bool} (hg : o.guard = some (j, want)) (hd : o.dst = some d) (hN : Nat.blt d N = true) (hgv : gval ops st j want = some g) (ho : o.op = .call ⟨.value x, args, tys⟩) (hx : st.ev x = .clo f 0 c) (hc : g = true → PureC G.P f qs (fun r => r = X)) (hp : g = true → strPL (args.toList.map st.ev)) (hq : (args.toList.map st.ev).map str = qs) (hcl : clBL qs = true) (hs : scB X = true)
    (h : POps G N Γ ops rest (st.put d (.opt g X)) K) : POps G N Γ ops (o :: rest) st K :=
  pop_callg (post := fun r => r = X) [] hg hd hN hgv ho hx hc (fun e => by subst hq; exact args_str _ (hp e) hcl) (fun _ r hr => by subst hr; exact ⟨scB_spec _ hs, h⟩) (fun _ => ⟨X, h⟩)
end
section
variable {G : Pg2} {N : Nat} {Γ : Fr} {st : PSt} {K' : PSt → Prop} {ops : Array Oper} {o : Oper} {d : Nat} {f : FuncId} {x : Operand} {args : Array Operand} {tys : Array TypeId} {c : Nat → PV} {qs : List PV} {X : PV}
theorem pst_callv (hg : o.guard = none) (hd : o.dst = some d) (hN : Nat.blt d N = true) (ho : o.op = .call ⟨.value x, args, tys⟩) (hx : st.ev x = .clo f 0 c) (hc : PureC G.P f qs (fun r => r = X)) (hq : args.toList.map st.ev = qs) (hcl : clBL qs = true) (hs : scB X = true)
    (h : K' (st.put d X)) : PStep G N Γ ops o st [] true K' :=
  pst_call [] hg hd hN ho hx hc (by subst hq; exact args_cl _ hcl) (fun r hr => by subst hr; exact ⟨scB_spec _ hs, h⟩)
theorem pst_callgv {j : Nat} {want g : Bool} (hg : o.guard = some (j, want)) (hd : o.dst = some d) (hN : Nat.blt d N = true) (hgv : gval ops st j want = some g) (ho : o.op = .call ⟨.value x, args, tys⟩) (hx : st.ev x = .clo f 0 c) (hc : g = true → PureC G.P f qs (fun r => r = X)) (hp : g = true → strPL (args.toList.map st.ev)) (hq : (args.toList.map st.ev).map str = qs) (hcl : clBL qs = true) (hs : scB X = true)
    (h : K' (st.put d (.opt g X))) : PStep G N Γ ops o st [] true K' :=
  pst_callg (post := fun r => r = X) [] hg hd hN hgv ho hx hc (fun e => by subst hq; exact args_str _ (hp e) hcl) (fun _ r hr => by subst hr; exact ⟨scB_spec _ hs, h⟩) (fun _ => ⟨X, h⟩)
end
theorem qgd {P : Prop} (h : P := by first | exact fun _ => trivial | exact fun h => ⟨h, trivial⟩ | exact fun h => ⟨h, h, trivial⟩ | exact fun _ => Nat.zero_lt_one | exact fun h => ⟨h, Nat.zero_lt_one⟩ | exact fun h => ⟨h, fun hb => by simp only [h, hb]; rfl⟩ | exact fun h => ⟨h, h, by omega, by omega⟩ | exact fun h => ⟨h, (show (_ : Nat) < _ from by first | omega | (simp only [iRow]; omega))⟩) : P := h
theorem qrd {P : Prop} (h : P := by first | exact Nat.zero_lt_one | exact pk_t | exact pk_f | exact (show (_ : Int) ≠ 0 from by omega) | (refine And.intro ?_ ?_ <;> omega) | exact (show (_ : Nat) < _ from by first | omega | (simp only [iRow]; omega))) : P := h
theorem qst {P : Prop} (h : P := by first | exact (show (_ : Nat) < _ from by first | omega | (simp only [iRow]; omega))) : P := h
theorem qtg {P : Prop} (h : P := by first | exact (fun _ => trivial) | exact (fun h => ⟨h, trivial⟩) | exact (fun h => ⟨h, h, trivial⟩) | exact (fun _ => Nat.zero_lt_one) | exact (fun h => ⟨h, Nat.zero_lt_one⟩)) : P := h
theorem qtk {P : Prop} (h : P := by first | exact trivial | exact Nat.zero_lt_one | exact pk_t | exact pk_f | assumption | omega | exact ⟨by omega, by omega⟩ | exact (Int.ne_of_gt (by omega))) : P := h
section
variable {G : Pg2} {N : Nat} {Γ : Fr} {st : PSt} {K : Exit → PSt → Prop} {ops : Array Oper} {o : Oper} {d : Nat} {r : PV} {pre : Prop} {H : List Nat} {ni : Bool} {fuel : Nat} {listed : Array Bool}
theorem aT (i : Nat) (h : PAny G N Γ ops H ni fuel (listed.setIfInBounds i true) (st.put d r) K) (hi : ops[i]? = some o := by exact rfl) (hs : Region.noSelect ops = true := by kernel_rfl) (hf : Region.free .any ops listed i = true := by kernel_rfl) (hready : (Region.ready .any ops listed).contains i = true := by kernel_rfl) (hg : o.guard = none := by exact rfl) (hd : o.dst = some d := by exact rfl) (hN : Nat.blt d N = true := by exact rfl)
    (hr : pread G.tab ⟨st.tm, maskM H 0 st.mem⟩ o.op = some (r, pre) := by exact rfl) (hni : (needI st o.op && !ni) = false := by exact rfl) (hp : pre := by exact qtk) : PAny G N Γ ops H ni (fuel + 1) listed st K := any_take i hi hs hf hready hg hd hN hr hni hp h
theorem aT2 (i : Nat) (h : PAny G N Γ ops H ni fuel (listed.setIfInBounds i true) (st.put d r) K) (hi : ops[i]? = some o := by exact rfl) (hs : Region.noSelect ops = true := by kernel_rfl) (hf : Region.free .any ops listed i = true := by kernel_rfl) (hready : (Region.ready .any ops listed).contains i = true := by kernel_rfl) (hg : o.guard = none := by exact rfl) (hd : o.dst = some d := by exact rfl) (hN : Nat.blt d N = true := by exact rfl)
    (hr : pread2 G.tab G.eqs ⟨st.tm, maskM H 0 st.mem⟩ o.op = some (r, pre) := by exact rfl) (hp : pre := by exact qtk) : PAny G N Γ ops H ni (fuel + 1) listed st K := any_take2 i hi hs hf hready hg hd hN hr hp h
theorem aC (i : Nat) (hp : pre) (h : PAny G N Γ ops H ni fuel (listed.setIfInBounds i true) (st.put d r) K) (hi : ops[i]? = some o := by exact rfl) (hs : Region.noSelect ops = true := by kernel_rfl) (hf : Region.free .any ops listed i = true := by kernel_rfl) (hready : (Region.ready .any ops listed).contains i = true := by kernel_rfl) (hg : o.guard = none := by exact rfl) (hd : o.dst = some d := by exact rfl) (hN : Nat.blt d N = true := by exact rfl)
    (hr : pread G.tab ⟨st.tm, maskM H 0 st.mem⟩ o.op = some (r, pre) := by exact rfl) (hni : (needI st o.op && !ni) = false := by exact rfl) : PAny G N Γ ops H ni (fuel + 1) listed st K := any_take i hi hs hf hready hg hd hN hr hni hp h
theorem aO (i : Nat) (hi : ops[i]? = some o) {ch : List Nat} {nk : Bool} (hstep : PStep G N Γ ops o st ch nk (fun st' => PAny G N Γ ops H (ni && nk) fuel (listed.setIfInBounds i true) st' K)) (hready : Region.ready .any ops listed = [i] := by kernel_rfl) (hchb : chB H ch = true := by exact rfl) (hHb : inB st.mem.length H = true := by exact rfl) : PAny G N Γ ops H ni (fuel + 1) listed st K := any_one i hi hready hchb hHb hstep
end
end Go.Proofs.YtcefhgomkehokaaGreat
