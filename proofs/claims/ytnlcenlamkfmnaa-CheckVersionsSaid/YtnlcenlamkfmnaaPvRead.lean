/- Operations that only read: what they yield, on pure values. -/
import Derived.Test.YtnlcenlamkfmnaaPv
set_option linter.unusedSimpArgs false
set_option linter.unusedVariables false
namespace Go.Proofs.Ytnlcenlamkfmnaa

/-- what is needed of a type -/
inductive TK where
  | struct (fs : List (Nat × Nat))
  | array (n e : Nat)
  | slice (e : Nat)
  | int (k : IntKind)
  | bool
  | string
  | pointer (e : Nat)
  | other
  | bad
structure TI where
  sz : Nat
  bytes : Nat
  k : TK
  zero : Option Value

def tkOf : Option TypeDesc → TK
  | some (.struct fs) => .struct (fs.toList.map fun f => (f.offset, f.type))
  | some (.array n e) => .array n e
  | some (.slice e) => .slice e
  | some (.int k) => .int k
  | some .bool => .bool
  | some .string => .string
  | some (.pointer e) => .pointer e
  | none => .bad
  | _ => .other
def tiOf (P : Program) (t : TypeId) : TI :=
  match P.info? t with
  | some i => ⟨i.size, i.bytes, tkOf (P.underlying t), i.zero⟩
  | none => ⟨0, 0, .bad, none⟩
def tget : List TI → Nat → TI
  | [], _ => ⟨0, 0, .bad, none⟩
  | x :: _, 0 => x
  | _ :: r, n + 1 => tget r n
def TabOk (P : Program) (tab : List TI) : Prop := ∀ t, tget tab t = tiOf P t ∨ tget tab t = ⟨0, 0, .bad, none⟩

theorem tget_map (f : Nat → TI) (d : TI) : ∀ (n s t : Nat), t < n → tget ((List.range' s n).map f) t = f (s + t)
  | 0, _, _, h => by omega
  | n + 1, s, 0, _ => by simp [List.range', tget]
  | n + 1, s, t + 1, h => by
    simp only [List.range', List.map_cons, tget]
    rw [tget_map f d n (s + 1) t (by omega)]
    congr 1; omega
theorem tget_out : ∀ (l : List TI) (t : Nat), l.length ≤ t → tget l t = ⟨0, 0, .bad, none⟩
  | [], _, _ => rfl
  | _ :: r, 0, h => by simp at h
  | _ :: r, t + 1, h => by simp only [tget]; exact tget_out r t (by simpa using h)
theorem tabOk_of {P : Program} {tab : List TI} {n : Nat} (h : tab = (List.range' 0 n).map (tiOf P)) : TabOk P tab := by
  intro t
  subst h
  by_cases ht : t < n
  · rw [tget_map (tiOf P) ⟨0, 0, .bad, none⟩ _ 0 t ht]; simp
  · exact .inr (tget_out _ _ (by simp; omega))

/-- a constant -/
def cv (v : Value) : PV := .val v
def PSt.ev (st : PSt) : Operand → PV
  | .tmp t => st.get t
  | .const v => cv v
  | .func f => .clo f 0 (fun _ => .junk)
  | .global _ => .junk

/-- what lies under a condition, and the condition -/
def str : PV → PV
  | .opt _ q => q
  | q => q
def strP (p : PV) (c : Prop) : Prop :=
  match p with
  | .opt g _ => g = true ∧ c
  | _ => c

abbrev RP := Option (PV × Prop)

def pint (op : BinOp) (k : IntKind) (a b : Int) : RP :=
  match op with
  | .add => some (.val (.int k (k.wrap (a + b))), True)
  | .sub => some (.val (.int k (k.wrap (a - b))), True)
  | .mul => some (.val (.int k (k.wrap (a * b))), True)
  | .quo => some (.val (.int k (k.wrap (a.tdiv b))), b ≠ 0)
  | .rem => some (.val (.int k (a.tmod b)), b ≠ 0)
  | .eql => some (.val (.bool (a == b)), True)
  | .neq => some (.val (.bool (a != b)), True)
  | .lss => some (.val (.bool (decide (a < b))), True)
  | .leq => some (.val (.bool (decide (a ≤ b))), True)
  | .gtr => some (.val (.bool (decide (b < a))), True)
  | .geq => some (.val (.bool (decide (b ≤ a))), True)
  | .and => some (.val (.int k (k.wrap ((BitVec.ofInt k.bits a &&& BitVec.ofInt k.bits b).toNat : Nat))), True)
  | _ => none
def pstr (op : BinOp) (a b : ByteArray) : RP :=
  match op with
  | .eql => some (.val (.bool (a.toList == b.toList)), True)
  | .neq => some (.val (.bool !(a.toList == b.toList)), True)
  | .lss => some (.val (.bool (Op.bytesLess a.toList b.toList)), True)
  | .leq => some (.val (.bool (Op.bytesLess a.toList b.toList || a.toList == b.toList)), True)
  | .gtr => some (.val (.bool !(Op.bytesLess a.toList b.toList || a.toList == b.toList)), True)
  | .geq => some (.val (.bool !Op.bytesLess a.toList b.toList), True)
  | .add => some (.val (.string (a ++ b)), ((a.size + b.size : Nat) : Int) ≤ 9223372036854775807)
  | _ => none
def pbool (op : BinOp) (a b : Bool) : RP :=
  match op with
  | .eql => some (.val (.bool (a == b)), True)
  | .neq => some (.val (.bool !(a == b)), True)
  | _ => none
def IntKind.same : IntKind → IntKind → Bool
  | .i8, .i8 => true | .i16, .i16 => true | .i32, .i32 => true | .i64, .i64 => true
  | .u8, .u8 => true | .u16, .u16 => true | .u32, .u32 => true | .u64, .u64 => true
  | _, _ => false
theorem IntKind.same_eq {a b : IntKind} (h : IntKind.same a b = true) : a = b := by cases a <;> cases b <;> first | rfl | cases h
def TK.isBool : TK → Bool
  | .bool => true
  | _ => false
def TK.isAgg : TK → Bool
  | .struct _ => true
  | .array _ _ => true
  | _ => false
def TK.scalar : TK → Bool
  | .struct _ => false
  | .array _ _ => false
  | .bad => false
  | _ => true
def pbin (tab : List TI) (op : BinOp) (t : Nat) : PV → PV → RP
  | .val (.int k a), .val (.int k' b) => match op with
    | .shr => some (.val (.int k (a.fdiv (2 ^ min b.toNat k.bits))), ¬ b < 0)
    | op => cond (IntKind.same k k') (pint op k a b) none
  | .val (.string a), .val (.string b) => pstr op a b
  | .val (.bool a), .val (.bool b) => cond (tget tab t).k.isBool (pbool op a b) none
  | _, _ => none
def pun (op : UnOp) : PV → RP
  | .val (.bool b) => match op with | .not => some (.val (.bool !b), True) | _ => none
  | .val (.int k n) => match op with | .neg => some (.val (.int k (k.wrap (0 - n))), True) | _ => none
  | _ => none
def ppick (c : Bool) : PV → PV → RP
  | .val (.bool x), .val (.bool y) => some (.val (.bool (cond c x y)), True)
  | .val (.bool x), .opt g (.val (.bool y)) => some (.val (.bool (cond c x y)), c = false → g = true)
  | .opt g (.val (.bool x)), .val (.bool y) => some (.val (.bool (cond c x y)), c = true → g = true)
  | .val (.bool x), .opt _ .junk => cond c (some (.val (.bool x), True)) none
  | .opt _ .junk, .val (.bool y) => cond c none (some (.val (.bool y), True))
  | _, _ => none
def nth (l : List (Nat × Nat)) : Nat → Option (Nat × Nat)
  | 0 => match l with | x :: _ => some x | [] => none
  | n + 1 => match l with | _ :: r => nth r n | [] => none
def rowAt : List Row → Nat → Option Row
  | [], _ => none
  | r :: _, 0 => match r with | ⟨s, o, n, sz, f⟩ => some ⟨s, o, n, sz, f⟩
  | _ :: m, l + 1 => rowAt m l
/-- hands on a value in the form of its constructor -/
def force (p : PV) (k : PV → RP) : RP :=
  match p with
  | .junk => k .junk
  | .val v => k (.val v)
  | .agg n f => k (.agg n f)
  | .tup n f => k (.tup n f)
  | .ptr l i j => k (.ptr l i j)
  | .lsl l i n => k (.lsl l i n)
  | .vsl n sz f => k (.vsl n sz f)
  | .vptr n sz f i j => k (.vptr n sz f i j)
  | .opt b v => k (.opt b v)
  | .clo f n c => k (.clo f n c)
  | .mref l => k (.mref l)
theorem force_eq (p : PV) (k : PV → RP) : force p k = k p := by cases p <;> rfl
def Row.ok (r : Row) (k : Row → RP) : RP :=
  match r.s with
  | .dead => none
  | .virt => none
  | .mp => none
  | _ => k r
def nthP : List PV → Nat → PV
  | [], _ => .junk
  | p :: _, 0 => p
  | _ :: l, n + 1 => nthP l n
def forceL {α : Type} (n : Nat) (f : Nat → PV) (i : Nat) (k : List PV → Option α) : Option α :=
  match n with
  | 0 => k []
  | n + 1 => match f i with
    | .junk => forceL n f (i + 1) fun l => k (.junk :: l)
    | .val v => forceL n f (i + 1) fun l => k (.val v :: l)
    | .agg m g => forceL n f (i + 1) fun l => k (.agg m g :: l)
    | .tup m g => forceL n f (i + 1) fun l => k (.tup m g :: l)
    | .ptr a b c => forceL n f (i + 1) fun l => k (.ptr a b c :: l)
    | .lsl a b c => forceL n f (i + 1) fun l => k (.lsl a b c :: l)
    | .vsl m sz g => forceL n f (i + 1) fun l => k (.vsl m sz g :: l)
    | .vptr m sz g a b => forceL n f (i + 1) fun l => k (.vptr m sz g a b :: l)
    | .opt b v => forceL n f (i + 1) fun l => k (.opt b v :: l)
    | .clo g m c => forceL n f (i + 1) fun l => k (.clo g m c :: l)
    | .mref a => forceL n f (i + 1) fun l => k (.mref a :: l)
theorem forceL_eq {α : Type} : ∀ (n : Nat) (f : Nat → PV) (i : Nat) (k : List PV → Option α), forceL n f i k = k ((List.range' i n).map f)
  | 0, f, i, k => rfl
  | n + 1, f, i, k => by
    rw [forceL]
    simp only [List.range'_succ, List.map_cons]
    cases f i <;> simp only [forceL_eq n]
theorem nthP_map (f : Nat → PV) : ∀ (n i q : Nat), q < n → nthP ((List.range' i n).map f) q = f (i + q)
  | 0, _, _, h => by omega
  | n + 1, i, 0, _ => by simp [List.range'_succ, nthP]
  | n + 1, i, q + 1, h => by
    simp only [List.range'_succ, List.map_cons, nthP]
    rw [nthP_map f n (i + 1) q (by omega)]
    congr 1; omega
def pload (tab : List TI) (t : Nat) (n sz : Nat) (f : Nat → Nat → PV) (i j : Nat) : RP :=
  cond (tget tab t).k.isAgg
    (cond (Nat.ble (j + (tget tab t).sz) sz) (forceL (tget tab t).sz (fun q => f i (j + q)) 0 fun l => some (.agg (tget tab t).sz (nthP l), i < n)) none)
    (cond ((tget tab t).k.scalar && Nat.blt j sz) (force (f i j) fun p => some (p, i < n)) none)
/-- the same value under another condition -/
def rmap (x : RP) (g : Prop → Prop) : RP :=
  match x with
  | some (r, c) => some (r, g c)
  | none => none
theorem rmap_some {x : RP} {g : Prop → Prop} {r : PV} {c : Prop} (h : rmap x g = some (r, c)) : ∃ c', x = some (r, c') ∧ c = g c' := by
  unfold rmap at h
  split at h
  · rename_i r' c'
    simp only [Option.some.injEq, Prod.mk.injEq] at h
    obtain ⟨rfl, rfl⟩ := h
    exact ⟨c', rfl, rfl⟩
  · cases h
/-- operations that only read -/
def pread (tab : List TI) (st : PSt) : Op → RP
  | .move x => force (st.ev x) fun p => some (p, True)
  | .assign x => force (st.ev x) fun p => some (p, True)
  | .pick c a b => match st.ev c with
    | .val (.bool c) => ppick c (st.ev a) (st.ev b)
    | .opt g (.val (.bool c)) => rmap (ppick c (st.ev a) (st.ev b)) fun x => g = true ∧ x
    | _ => none
  | .binOp op t x y _ => rmap (pbin tab op t (str (st.ev x)) (str (st.ev y))) fun c => strP (st.ev x) (strP (st.ev y) c)
  | .unOp op _ x => rmap (pun op (str (st.ev x))) fun c => strP (st.ev x) c
  | .convert s d x => cond (tget tab s).k.scalar (match (tget tab d).k, str (st.ev x) with
    | .int k, .val (.int _ n) => some (.val (.int k (k.wrap n)), strP (st.ev x) True)
    | .string, .val (.string s) => some (.val (.string s), strP (st.ev x) True)
    | _, _ => none) none
  | .nilCheck x => match str (st.ev x) with
    | .ptr l i j => some (.ptr l i j, strP (st.ev x) True)
    | .vptr n sz f i j => some (.vptr n sz f i j, strP (st.ev x) True)
    | _ => none
  | .extract x k => match str (st.ev x) with
    | .tup n f => cond (Nat.blt k n) (force (f k) fun p => some (p, strP (st.ev x) True)) none
    | _ => none
  | .fieldAddr s x k => match (tget tab s).k with
    | .struct fs => match nth fs k with
      | some (off, ft) => cond (Nat.beq (tget tab ft).sz 0) none (match str (st.ev x) with
        | .ptr l i j => some (.ptr l i (j + off), strP (st.ev x) True)
        | .vptr n sz f i j => some (.vptr n sz f i (j + off), strP (st.ev x) True)
        | _ => none)
      | none => none
    | _ => none
  | .field s x k => match (tget tab s).k with
    | .struct fs => match nth fs k, str (st.ev x) with
      | some (off, ft), .agg n f => cond (tget tab ft).k.isAgg
          (cond (Nat.ble (off + (tget tab ft).sz) n) (forceL (tget tab ft).sz (fun q => f (off + q)) 0 fun l => some (.agg (tget tab ft).sz (nthP l), strP (st.ev x) True)) none)
          (cond ((tget tab ft).k.scalar && Nat.blt off n) (force (f off) fun p => some (p, strP (st.ev x) True)) none)
      | _, _ => none
    | _ => none
  | .load t x => match str (st.ev x) with
    | .ptr l i j => match rowAt st.mem l with
      | some r => rmap (r.ok fun r => pload tab t r.n r.sz r.f i j) fun c => strP (st.ev x) c
      | none => none
    | .vptr n sz f i j => rmap (pload tab t n sz f i j) fun c => strP (st.ev x) c
    | _ => none
  | .indexAddr t x y => match (tget tab t).k, str (st.ev x), str (st.ev y) with
    | .slice e, .vsl n sz f, .val (.int _ i) => cond (Nat.beq (tget tab e).sz sz && Nat.blt 0 sz) (some (.vptr n sz f i.toNat 0, strP (st.ev x) (strP (st.ev y) (0 ≤ i ∧ i < n)))) none
    | .slice e, .lsl l i0 n, .val (.int _ i) => match rowAt st.mem l with
      | some r => r.ok fun r => cond (Nat.beq (tget tab e).sz r.sz && Nat.blt 0 r.sz) (some (.ptr l (i0 + i.toNat) 0, strP (st.ev x) (strP (st.ev y) (0 ≤ i ∧ i < n)))) none
      | none => none
    | .array n e, .ptr l i j, .val (.int _ q) => cond (Nat.blt 0 (tget tab e).sz) (some (.ptr l i (j + q.toNat * (tget tab e).sz), strP (st.ev x) (strP (st.ev y) (0 ≤ q ∧ q < n)))) none
    | _, _, _ => none
  | .call c => match c.callee with
    | .builtin b => match b, c.args.toList, c.argTypes.toList with
      | .len, [x], [t] => match (tget tab t).k, str (st.ev x) with
        | .slice _, .vsl n _ _ => some (.val (.int .i64 n), strP (st.ev x) True)
        | .slice _, .lsl _ _ n => some (.val (.int .i64 n), strP (st.ev x) True)
        | .slice _, .val (.slice _ n _) => some (.val (.int .i64 n), strP (st.ev x) True)
        | .string, .val (.string s) => some (.val (.int .i64 s.size), strP (st.ev x) True)
        | _, _ => none
      | .min, [x, y], _ => match str (st.ev x), str (st.ev y) with
        | .val (.int k a), .val (.int _ b) => some (.val (.int k (if b < a then b else a)), strP (st.ev x) (strP (st.ev y) True))
        | _, _ => none
      | .max, [x, y], _ => match str (st.ev x), str (st.ev y) with
        | .val (.int k a), .val (.int _ b) => some (.val (.int k (if a < b then b else a)), strP (st.ev x) (strP (st.ev y) True))
        | _, _ => none
      | _, _, _ => none
    | _ => none
  | _ => none
end Go.Proofs.Ytnlcenlamkfmnaa
