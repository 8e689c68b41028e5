/- This seat's program and table of types. -/
import Derived.Test.YtcghpepighboaaaDoorPvRows3
import Derived.IntWalk
set_option linter.unusedSimpArgs false
set_option linter.unusedVariables false
set_option maxRecDepth 100000
namespace Go.Proofs.YtcghpepighboaaaDoor
def tab : List TI := [⟨1, 0, .other, some (.tuple #[])⟩,
  ⟨1, 8, .other, some .nilFunc⟩,
  ⟨1, 8, .int .i64, some (.int Go.IntKind.i64 0)⟩,
  ⟨1, 8, .int .i64, some (.int Go.IntKind.i64 0)⟩,
  ⟨1, 1, .bool, some (.bool false)⟩,
  ⟨1, 1, .int .u8, some (.int Go.IntKind.u8 0)⟩,
  ⟨1, 1, .int .u8, some (.int Go.IntKind.u8 0)⟩,
  ⟨4, 24, .struct [(0, 2), (1, 3), (2, 4), (3, 6)], some (.agg #[(.int Go.IntKind.i64 0), (.int Go.IntKind.i64 0), (.bool false), (.int Go.IntKind.u8 0)])⟩,
  ⟨4, 24, .struct [(0, 2), (1, 3), (2, 4), (3, 6)], some (.agg #[(.int Go.IntKind.i64 0), (.int Go.IntKind.i64 0), (.bool false), (.int Go.IntKind.u8 0)])⟩,
  ⟨1, 16, .string, some (.string { data := #[] })⟩,
  ⟨1, 16, .string, some (.string { data := #[] })⟩,
  ⟨1, 16, .string, some (.string { data := #[] })⟩,
  ⟨1, 8, .int .u64, some (.int Go.IntKind.u64 0)⟩,
  ⟨2, 24, .struct [(0, 9), (1, 12)], some (.agg #[(.string { data := #[] }), (.int Go.IntKind.u64 0)])⟩,
  ⟨2, 24, .struct [(0, 9), (1, 12)], some (.agg #[(.string { data := #[] }), (.int Go.IntKind.u64 0)])⟩,
  ⟨1, 8, .pointer 143, some (.pointer none)⟩,
  ⟨1, 8, .pointer 146, some (.pointer none)⟩,
  ⟨1, 8, .pointer 156, some (.pointer none)⟩,
  ⟨1, 8, .struct [(0, 17)], some (.agg #[(.pointer none)])⟩,
  ⟨1, 8, .struct [(0, 17)], some (.agg #[(.pointer none)])⟩,
  ⟨1, 16, .other, some .nilIface⟩,
  ⟨1, 4, .int .i32, some (.int Go.IntKind.i32 0)⟩,
  ⟨1, 8, .other, some .nilFunc⟩,
  ⟨1, 24, .slice 25, some (.slice none 0 0)⟩,
  ⟨2, 16, .struct [(0, 3), (1, 3)], some (.agg #[(.int Go.IntKind.i64 0), (.int Go.IntKind.i64 0)])⟩,
  ⟨2, 16, .struct [(0, 3), (1, 3)], some (.agg #[(.int Go.IntKind.i64 0), (.int Go.IntKind.i64 0)])⟩,
  ⟨1, 24, .slice 28, some (.slice none 0 0)⟩,
  ⟨3, 24, .struct [(0, 3), (1, 25)], some (.agg #[(.int Go.IntKind.i64 0), (.int Go.IntKind.i64 0), (.int Go.IntKind.i64 0)])⟩,
  ⟨3, 24, .struct [(0, 3), (1, 25)], some (.agg #[(.int Go.IntKind.i64 0), (.int Go.IntKind.i64 0), (.int Go.IntKind.i64 0)])⟩,
  ⟨1, 24, .slice 3, some (.slice none 0 0)⟩,
  ⟨1, 8, .int .i64, some (.int Go.IntKind.i64 0)⟩,
  ⟨1, 0, .other, some (.tuple #[(.agg #[(.int Go.IntKind.i64 0), (.int Go.IntKind.i64 0)]), (.int Go.IntKind.i64 0)])⟩,
  ⟨1, 8, .other, some .nilFunc⟩,
  ⟨1, 8, .other, some .nilFunc⟩,
  ⟨1, 0, .other, some (.tuple #[(.slice none 0 0), (.int Go.IntKind.i64 0)])⟩,
  ⟨1, 8, .other, some .nilFunc⟩,
  ⟨2, 16, .struct [(0, 3), (1, 3)], some (.agg #[(.int Go.IntKind.i64 0), (.int Go.IntKind.i64 0)])⟩,
  ⟨2, 16, .struct [(0, 3), (1, 3)], some (.agg #[(.int Go.IntKind.i64 0), (.int Go.IntKind.i64 0)])⟩,
  ⟨1, 8, .other, some .nilFunc⟩,
  ⟨2, 40, .struct [(0, 9), (1, 23)], some (.agg #[(.string { data := #[] }), (.slice none 0 0)])⟩,
  ⟨2, 40, .struct [(0, 9), (1, 23)], some (.agg #[(.string { data := #[] }), (.slice none 0 0)])⟩,
  ⟨1, 24, .slice 40, some (.slice none 0 0)⟩,
  ⟨1, 8, .other, some .nilFunc⟩,
  ⟨1, 8, .other, some .nilFunc⟩,
  ⟨1, 8, .pointer 90, some (.pointer none)⟩,
  ⟨1, 8, .other, some .nilFunc⟩,
  ⟨1, 8, .other, some .nilFunc⟩,
  ⟨1, 8, .other, some .nilFunc⟩,
  ⟨1, 8, .other, some .nilFunc⟩,
  ⟨1, 8, .other, some .nilFunc⟩,
  ⟨1, 24, .slice 68, some (.slice none 0 0)⟩,
  ⟨1, 24, .slice 70, some (.slice none 0 0)⟩,
  ⟨1, 0, .other, some (.tuple #[(.slice none 0 0), (.slice none 0 0), (.slice none 0 0)])⟩,
  ⟨1, 8, .other, some .nilFunc⟩,
  ⟨3, 24, .struct [(0, 3), (1, 3), (2, 3)], some (.agg #[(.int Go.IntKind.i64 0), (.int Go.IntKind.i64 0), (.int Go.IntKind.i64 0)])⟩,
  ⟨3, 24, .struct [(0, 3), (1, 3), (2, 3)], some (.agg #[(.int Go.IntKind.i64 0), (.int Go.IntKind.i64 0), (.int Go.IntKind.i64 0)])⟩,
  ⟨1, 24, .slice 58, some (.slice none 0 0)⟩,
  ⟨10, 104, .struct [(0, 3), (1, 25), (3, 55), (6, 9), (7, 3), (8, 3), (9, 56)], some (.agg #[(.int Go.IntKind.i64 0), (.int Go.IntKind.i64 0), (.int Go.IntKind.i64 0), (.int Go.IntKind.i64 0), (.int Go.IntKind.i64 0), (.int Go.IntKind.i64 0), (.string { data := #[] }), (.int Go.IntKind.i64 0), (.int Go.IntKind.i64 0), (.slice none 0 0)])⟩,
  ⟨10, 104, .struct [(0, 3), (1, 25), (3, 55), (6, 9), (7, 3), (8, 3), (9, 56)], some (.agg #[(.int Go.IntKind.i64 0), (.int Go.IntKind.i64 0), (.int Go.IntKind.i64 0), (.int Go.IntKind.i64 0), (.int Go.IntKind.i64 0), (.int Go.IntKind.i64 0), (.string { data := #[] }), (.int Go.IntKind.i64 0), (.int Go.IntKind.i64 0), (.slice none 0 0)])⟩,
  ⟨1, 8, .other, some .nilFunc⟩,
  ⟨4, 32, .struct [(0, 4), (1, 55)], some (.agg #[(.bool false), (.int Go.IntKind.i64 0), (.int Go.IntKind.i64 0), (.int Go.IntKind.i64 0)])⟩,
  ⟨4, 32, .struct [(0, 4), (1, 55)], some (.agg #[(.bool false), (.int Go.IntKind.i64 0), (.int Go.IntKind.i64 0), (.int Go.IntKind.i64 0)])⟩,
  ⟨1, 8, .other, some .nilFunc⟩,
  ⟨1, 8, .other, some .nilFunc⟩,
  ⟨1, 8, .other, some .nilFunc⟩,
  ⟨1, 8, .other, some .nilFunc⟩,
  ⟨1, 8, .other, some .nilFunc⟩,
  ⟨3, 32, .struct [(0, 9), (1, 25)], some (.agg #[(.string { data := #[] }), (.int Go.IntKind.i64 0), (.int Go.IntKind.i64 0)])⟩,
  ⟨3, 32, .struct [(0, 9), (1, 25)], some (.agg #[(.string { data := #[] }), (.int Go.IntKind.i64 0), (.int Go.IntKind.i64 0)])⟩,
  ⟨21, 216, .struct [(0, 3), (1, 9), (2, 61), (6, 3), (7, 26), (8, 58), (18, 3), (19, 25)], some (.agg #[(.int Go.IntKind.i64 0), (.string { data := #[] }), (.bool false), (.int Go.IntKind.i64 0), (.int Go.IntKind.i64 0), (.int Go.IntKind.i64 0), (.int Go.IntKind.i64 0), (.slice none 0 0), (.int Go.IntKind.i64 0), (.int Go.IntKind.i64 0), (.int Go.IntKind.i64 0), (.int Go.IntKind.i64 0), (.int Go.IntKind.i64 0), (.int Go.IntKind.i64 0), (.string { data := #[] }), (.int Go.IntKind.i64 0), (.int Go.IntKind.i64 0), (.slice none 0 0), (.int Go.IntKind.i64 0), (.int Go.IntKind.i64 0), (.int Go.IntKind.i64 0)])⟩,
  ⟨21, 216, .struct [(0, 3), (1, 9), (2, 61), (6, 3), (7, 26), (8, 58), (18, 3), (19, 25)], some (.agg #[(.int Go.IntKind.i64 0), (.string { data := #[] }), (.bool false), (.int Go.IntKind.i64 0), (.int Go.IntKind.i64 0), (.int Go.IntKind.i64 0), (.int Go.IntKind.i64 0), (.slice none 0 0), (.int Go.IntKind.i64 0), (.int Go.IntKind.i64 0), (.int Go.IntKind.i64 0), (.int Go.IntKind.i64 0), (.int Go.IntKind.i64 0), (.int Go.IntKind.i64 0), (.string { data := #[] }), (.int Go.IntKind.i64 0), (.int Go.IntKind.i64 0), (.slice none 0 0), (.int Go.IntKind.i64 0), (.int Go.IntKind.i64 0), (.int Go.IntKind.i64 0)])⟩,
  ⟨1, 8, .other, some .nilFunc⟩,
  ⟨1, 8, .other, some .nilFunc⟩,
  ⟨1, 8, .other, some .nilFunc⟩,
  ⟨1, 8, .other, some (.map none)⟩,
  ⟨1, 24, .slice 9, some (.slice none 0 0)⟩,
  ⟨1, 8, .other, some .nilFunc⟩,
  ⟨1, 8, .other, some .nilFunc⟩,
  ⟨1, 8, .other, some .nilFunc⟩,
  ⟨1, 8, .other, some .nilFunc⟩,
  ⟨1, 8, .other, some .nilFunc⟩,
  ⟨1, 8, .other, some .nilFunc⟩,
  ⟨2, 16, .struct [(0, 3), (1, 3)], some (.agg #[(.int Go.IntKind.i64 0), (.int Go.IntKind.i64 0)])⟩,
  ⟨2, 16, .struct [(0, 3), (1, 3)], some (.agg #[(.int Go.IntKind.i64 0), (.int Go.IntKind.i64 0)])⟩,
  ⟨1, 0, .other, some (.tuple #[(.agg #[(.int Go.IntKind.i64 0), (.int Go.IntKind.i64 0)]), (.int Go.IntKind.i64 0)])⟩,
  ⟨1, 8, .other, some .nilFunc⟩,
  ⟨1, 8, .other, some (.map none)⟩,
  ⟨1, 0, .other, some (.tuple #[(.slice none 0 0), (.bool false)])⟩,
  ⟨1, 8, .other, some .nilFunc⟩,
  ⟨2, 32, .struct [(0, 29), (1, 3)], some (.agg #[(.slice none 0 0), (.int Go.IntKind.i64 0)])⟩,
  ⟨2, 32, .struct [(0, 29), (1, 3)], some (.agg #[(.slice none 0 0), (.int Go.IntKind.i64 0)])⟩,
  ⟨1, 0, .other, some (.tuple #[(.slice none 0 0), (.slice none 0 0), (.slice none 0 0)])⟩,
  ⟨1, 8, .other, some .nilFunc⟩,
  ⟨2, 40, .struct [(0, 9), (1, 51)], some (.agg #[(.string { data := #[] }), (.slice none 0 0)])⟩,
  ⟨2, 40, .struct [(0, 9), (1, 51)], some (.agg #[(.string { data := #[] }), (.slice none 0 0)])⟩,
  ⟨1, 8, .other, some .nilFunc⟩,
  ⟨1, 8, .other, some .nilFunc⟩,
  ⟨1, 8, .other, some .nilFunc⟩,
  ⟨1, 24, .slice 61, some (.slice none 0 0)⟩,
  ⟨1, 8, .other, some .nilFunc⟩,
  ⟨1, 8, .other, some .nilFunc⟩,
  ⟨3, 72, .struct [(0, 50), (1, 51), (2, 41)], some (.agg #[(.slice none 0 0), (.slice none 0 0), (.slice none 0 0)])⟩,
  ⟨3, 72, .struct [(0, 50), (1, 51), (2, 41)], some (.agg #[(.slice none 0 0), (.slice none 0 0), (.slice none 0 0)])⟩,
  ⟨1, 8, .other, some .nilFunc⟩,
  ⟨1, 8, .other, some .nilFunc⟩,
  ⟨1, 8, .int .u64, some (.int Go.IntKind.u64 0)⟩,
  ⟨1, 8, .other, some .nilFunc⟩,
  ⟨1, 8, .other, some .nilFunc⟩,
  ⟨1, 8, .other, some .nilFunc⟩,
  ⟨1, 8, .int .u64, some (.int Go.IntKind.u64 0)⟩,
  ⟨1, 8, .other, some .nilFunc⟩,
  ⟨1, 8, .other, some .nilFunc⟩,
  ⟨1, 8, .other, some .nilFunc⟩,
  ⟨1, 8, .other, some .nilFunc⟩,
  ⟨1, 8, .other, some .nilFunc⟩,
  ⟨1, 0, .other, some (.tuple #[(.int Go.IntKind.i64 0), (.int Go.IntKind.i64 0)])⟩,
  ⟨1, 8, .other, some .nilFunc⟩,
  ⟨1, 0, .other, some (.tuple #[(.int Go.IntKind.i64 0), (.bool false)])⟩,
  ⟨1, 8, .other, some .nilFunc⟩,
  ⟨1, 8, .other, some .nilFunc⟩,
  ⟨1, 8, .other, some .nilFunc⟩,
  ⟨1, 8, .other, some .nilFunc⟩,
  ⟨1, 8, .other, some .nilFunc⟩,
  ⟨1, 8, .other, some .nilFunc⟩,
  ⟨1, 8, .other, some .nilFunc⟩,
  ⟨1, 8, .other, some .nilFunc⟩,
  ⟨1, 8, .other, some .nilFunc⟩,
  ⟨1, 0, .other, some (.tuple #[(.int Go.IntKind.u64 0), (.int Go.IntKind.u64 0)])⟩,
  ⟨1, 8, .other, some .nilFunc⟩,
  ⟨1, 8, .other, some .nilFunc⟩,
  ⟨1, 8, .other, some .nilFunc⟩,
  ⟨1, 8, .other, some .nilFunc⟩,
  ⟨1, 8, .other, some .nilFunc⟩,
  ⟨1, 0, .other, some (.tuple #[(.int Go.IntKind.i64 0), (.int Go.IntKind.i64 0), (.int Go.IntKind.i64 0), (.bool false)])⟩,
  ⟨1, 8, .other, some .nilFunc⟩,
  ⟨1, 8, .other, some .nilFunc⟩,
  ⟨1, 8, .other, some .nilFunc⟩,
  ⟨1, 8, .other, some .nilFunc⟩,
  ⟨12, 96, .array 12 3, some (.agg #[(.int Go.IntKind.i64 0), (.int Go.IntKind.i64 0), (.int Go.IntKind.i64 0), (.int Go.IntKind.i64 0), (.int Go.IntKind.i64 0), (.int Go.IntKind.i64 0), (.int Go.IntKind.i64 0), (.int Go.IntKind.i64 0), (.int Go.IntKind.i64 0), (.int Go.IntKind.i64 0), (.int Go.IntKind.i64 0), (.int Go.IntKind.i64 0)])⟩,
  ⟨1, 8, .other, some .nilFunc⟩,
  ⟨1, 8, .other, some .nilFunc⟩,
  ⟨1, 8, .other, some .nilFunc⟩,
  ⟨4, 40, .struct [(0, 17), (1, 17), (2, 17), (3, 9)], some (.agg #[(.pointer none), (.pointer none), (.pointer none), (.string { data := #[] })])⟩,
  ⟨4, 40, .struct [(0, 17), (1, 17), (2, 17), (3, 9)], some (.agg #[(.pointer none), (.pointer none), (.pointer none), (.string { data := #[] })])⟩,
  ⟨0, 0, .array 0 16, some (.agg #[])⟩,
  ⟨0, 0, .struct [(0, 144)], some (.agg #[])⟩,
  ⟨0, 0, .struct [(0, 144)], some (.agg #[])⟩,
  ⟨1, 8, .other, some .nilFunc⟩,
  ⟨1, 4, .int .u32, some (.int Go.IntKind.u32 0)⟩,
  ⟨1, 1, .int .u8, some (.int Go.IntKind.u8 0)⟩,
  ⟨1, 1, .int .u8, some (.int Go.IntKind.u8 0)⟩,
  ⟨1, 8, .other, some .nilFunc⟩,
  ⟨1, 8, .pointer 5, some (.pointer none)⟩,
  ⟨1, 4, .int .i32, some (.int Go.IntKind.i32 0)⟩,
  ⟨1, 4, .int .i32, some (.int Go.IntKind.i32 0)⟩,
  ⟨11, 48, .struct [(0, 12), (1, 12), (2, 148), (3, 149), (4, 5), (5, 5), (6, 150), (7, 151), (8, 152), (9, 153), (10, 154)], some (.agg #[(.int Go.IntKind.u64 0), (.int Go.IntKind.u64 0), (.int Go.IntKind.u32 0), (.int Go.IntKind.u8 0), (.int Go.IntKind.u8 0), (.int Go.IntKind.u8 0), (.int Go.IntKind.u8 0), .nilFunc, (.pointer none), (.int Go.IntKind.i32 0), (.int Go.IntKind.i32 0)])⟩,
  ⟨11, 48, .struct [(0, 12), (1, 12), (2, 148), (3, 149), (4, 5), (5, 5), (6, 150), (7, 151), (8, 152), (9, 153), (10, 154)], some (.agg #[(.int Go.IntKind.u64 0), (.int Go.IntKind.u64 0), (.int Go.IntKind.u32 0), (.int Go.IntKind.u8 0), (.int Go.IntKind.u8 0), (.int Go.IntKind.u8 0), (.int Go.IntKind.u8 0), .nilFunc, (.pointer none), (.int Go.IntKind.i32 0), (.int Go.IntKind.i32 0)])⟩,
  ⟨1, 8, .other, some (.pointer none)⟩]
theorem tab_ok : TabOk Tryd.prog tab := tabOk_of (n := tab.length) (by kernel_rfl)
noncomputable def G : Pg2 := ⟨⟨Tryd.prog, tab, tab_ok, by kernel_rfl⟩, [25, 55, 61], by kernel_rfl⟩
theorem w64 {n : Int} (h1 : -9223372036854775808 ≤ n) (h2 : n ≤ 9223372036854775807) : IntKind.i64.wrap n = n := IntWalk.i64_in n ⟨h1, h2⟩
theorem wu64 {n : Int} (h1 : 0 ≤ n) (h2 : n < 18446744073709551616) : IntKind.u64.wrap n = n := by
  simp only [IntKind.wrap, IntKind.bits, IntKind.signed]; simp; omega
theorem wu64n {n : Int} (h1 : n < 0) (h2 : -18446744073709551616 ≤ n) : IntKind.u64.wrap n = n + 18446744073709551616 := by
  simp only [IntKind.wrap, IntKind.bits, IntKind.signed]; simp; omega
def okR (n d : Int) : Bool := decide (1 ≤ d ∧ d ≤ 1000000 ∧ -1000000000000 ≤ n ∧ n ≤ 1000000000000 ∧ Int.gcd n d = 1)
theorem okR_bd {n d : Int} (h : okR n d = true) : 1 ≤ d ∧ d ≤ 1000000 ∧ -1000000000000 ≤ n ∧ n ≤ 1000000000000 := by
  simp only [okR, decide_eq_true_eq] at h; omega
theorem okR_gcd {n d : Int} (h : okR n d = true) : Int.gcd n d = 1 := by
  simp only [okR, decide_eq_true_eq] at h; omega
abbrev RE := (Int × Int) × Int
abbrev vr (n d : Int) : PV := .agg 2 (nthP [vi n, vi d])
abbrev vRE (r : RE) : PV := .tup 2 (nthP [vr r.1.1 r.1.2, vi r.2])
def fitG (neg : Bool) (n m g : Int) : RE :=
  if 1000000000000 < n / g ∨ 1000000 < m / g then ((0, 0), 4) else ((if neg then -(n / g) else n / g, m / g), 0)
def fitS (neg : Bool) (n m : Int) : RE := fitG neg n m (Int.gcd n m)
def newS (n d : Int) : RE := if d = 0 then ((0, 0), 5) else fitS (!(decide (n < 0) == decide (d < 0))) n.natAbs d.natAbs
def addR (a b c d : Int) : RE := if okR a b && okR c d then newS (a * d + c * b) (b * d) else ((0, 0), 1)
def subR (a b c d : Int) : RE := if okR a b && okR c d then newS (a * d - c * b) (b * d) else ((0, 0), 1)
def cmpR (a b c d : Int) : Int := if okR a b && okR c d then (if a * d < c * b then -1 else if c * b < a * d then 1 else 0) else 0
theorem gcd_step (a b : Nat) : Nat.gcd b (a % b) = Nat.gcd a b := by
  rw [Nat.gcd_comm a b, Nat.gcd_rec b a, Nat.gcd_comm]
theorem gcd_pos {n d : Int} (hd : 1 ≤ d) : 1 ≤ (Int.gcd n d : Int) := by
  have := Int.gcd_pos_of_ne_zero_right n (show d ≠ 0 by omega)
  omega
theorem mul_bd {a b : Int} (h1 : -1000000000000 ≤ a) (h2 : a ≤ 1000000000000) (h3 : 1 ≤ b) (h4 : b ≤ 1000000) : -1000000000000000000 ≤ a * b ∧ a * b ≤ 1000000000000000000 := by
  have hb : (0 : Int) ≤ b := by omega
  constructor
  · have e1 : -1000000000000 * b ≤ a * b := Int.mul_le_mul_of_nonneg_right h1 hb
    omega
  · have e1 : a * b ≤ 1000000000000 * b := Int.mul_le_mul_of_nonneg_right h2 hb
    omega
theorem mul_pos' {a b : Int} (h1 : 1 ≤ a) (h2 : a ≤ 1000000) (h3 : 1 ≤ b) (h4 : b ≤ 1000000) : 1 ≤ a * b ∧ a * b ≤ 1000000000000 := by
  have e1 : 1 * b ≤ a * b := Int.mul_le_mul_of_nonneg_right h1 (by omega)
  have e2 : a * b ≤ 1000000 * b := Int.mul_le_mul_of_nonneg_right h2 (by omega)
  omega
def upS (low s : Int) (pos : Bool) (mode : Int) : Bool :=
  if mode = 0 then !pos else if mode = 1 then pos else if mode = 2 then false else if mode = 3 then true
  else if s ≠ 0 then decide (0 < s) else if mode = 4 then pos else if mode = 5 then !pos else decide (low % 2 ≠ 0)
def cmpS (a b : Int) : Int := if a < b then -1 else if b < a then 1 else 0
def rndS (n d mode : Int) : Int :=
  if n % d = 0 then n / d else if upS (n / d) (cmpS (n % d) (d - n % d)) (decide (0 < n)) mode then n / d + 1 else n / d
def modeB (m : Int) : Bool := decide (0 ≤ m ∧ m ≤ 6)
theorem tmod_mod (v n : Int) (hn : 1 ≤ n) : (v.tmod n < 0 → v.tmod n + n = v % n) ∧ (0 ≤ v.tmod n → v.tmod n = v % n) ∧ -n < v.tmod n ∧ v.tmod n < n := by
  have h1 := Int.tmod_eq_emod (a := v) (b := n)
  have h2 := Int.emod_nonneg v (show n ≠ 0 by omega)
  have h3 := Int.emod_lt_of_pos v (show 0 < n by omega)
  have h4 : (n.natAbs : Int) = n := by omega
  split at h1 <;> omega
theorem tdiv_floor (n d : Int) (hd : 1 ≤ d) : (n.tmod d < 0 → n.tdiv d - 1 = n / d ∧ n.tmod d + d = n % d) ∧ (0 ≤ n.tmod d → n.tdiv d = n / d ∧ n.tmod d = n % d) := by
  have h1 := Int.tmod_add_mul_tdiv n d
  have h2 := Int.emod_add_mul_ediv n d
  obtain ⟨t1, t2, t3, t4⟩ := tmod_mod n d hd
  refine ⟨fun h => ?_, fun h => ?_⟩
  · have e := t1 h
    refine ⟨?_, e⟩
    have : d * (n.tdiv d - 1) = d * (n / d) := by
      rw [Int.mul_sub]; omega
    exact Int.eq_of_mul_eq_mul_left (by omega) this
  · have e := t2 h
    refine ⟨?_, e⟩
    have : d * n.tdiv d = d * (n / d) := by omega
    exact Int.eq_of_mul_eq_mul_left (by omega) this
theorem ediv_bd {n d : Int} (h1 : 1 ≤ d) (h3 : -1000000000000000000 ≤ n) (h4 : n ≤ 1000000000000000000) : (-1000000000000000000 ≤ n / d ∧ n / d ≤ 1000000000000000000) ∧ 0 ≤ n % d ∧ n % d < d := by
  refine ⟨⟨?_, ?_⟩, Int.emod_nonneg n (by omega), Int.emod_lt_of_pos n (by omega)⟩
  · exact Int.le_ediv_of_mul_le (by omega) (by have : (-1000000000000000000 : Int) * d ≤ -1000000000000000000 * 1 := by omega
                                               omega)
  · exact Int.ediv_le_of_le_mul (by omega) (by have : (1000000000000000000 : Int) * 1 ≤ 1000000000000000000 * d := by omega
                                               omega)
theorem rndS_two (n d m : Int) : rndS n d m = n / d ∨ (rndS n d m = n / d + 1 ∧ n % d ≠ 0) := by
  unfold rndS
  split
  · exact .inl rfl
  · split
    · exact .inr ⟨rfl, by assumption⟩
    · exact .inl rfl
theorem rndS_near (n d m : Int) (hd : 1 ≤ d) : n - d < rndS n d m * d ∧ rndS n d m * d < n + d := by
  have h2 := Int.emod_add_mul_ediv n d
  have h3 := Int.emod_nonneg n (show d ≠ 0 by omega)
  have h4 := Int.emod_lt_of_pos n (show 0 < d by omega)
  rw [Int.mul_comm] at h2
  rcases rndS_two n d m with e | ⟨e, hne⟩
  · rw [e]; omega
  · rw [e, Int.add_mul]; omega
theorem abs_mul_le {q b c : Int} (hb : 1 ≤ b) (hc : 1 ≤ c) {M : Int} (h1 : -M ≤ q * (b * c)) (h2 : q * (b * c) ≤ M) : -M ≤ q * c ∧ q * c ≤ M := by
  have e : q * (b * c) = (q * c) * b := by rw [Int.mul_comm b c, Int.mul_assoc]
  rw [e] at h1 h2
  have hM : 0 ≤ M := by omega
  generalize q * c = x at h1 h2
  by_cases hx : 0 ≤ x
  · have : x * 1 ≤ x * b := Int.mul_le_mul_of_nonneg_left hb hx
    omega
  · have : x * b ≤ x * 1 := Int.mul_le_mul_of_nonpos_left (by omega) hb
    omega
theorem fitG_bd (neg : Bool) (n m g : Int) (h1 : 0 ≤ n) (hg : 0 ≤ g) : -1000000000000 ≤ (fitG neg n m g).1.1 ∧ (fitG neg n m g).1.1 ≤ 1000000000000 := by
  have := Int.ediv_nonneg h1 hg
  unfold fitG
  split
  · simp
  · cases neg <;> simp <;> omega
theorem newS_bd (n d : Int) : -1000000000000 ≤ (newS n d).1.1 ∧ (newS n d).1.1 ≤ 1000000000000 := by
  unfold newS
  split
  · simp
  · exact fitG_bd _ _ _ _ (by omega) (by omega)
theorem addR_bd (a b c d : Int) : -1000000000000 ≤ (addR a b c d).1.1 ∧ (addR a b c d).1.1 ≤ 1000000000000 := by
  unfold addR; split
  · exact newS_bd _ _
  · simp
theorem subR_bd (a b c d : Int) : -1000000000000 ≤ (subR a b c d).1.1 ∧ (subR a b c d).1.1 ≤ 1000000000000 := by
  unfold subR; split
  · exact newS_bd _ _
  · simp
def roundR (a b c d mode : Int) : RE :=
  if okR a b && okR c d then (if c ≤ 0 ∨ modeB mode = false then ((0, 0), 2) else newS (rndS (a * d) (b * c) mode * c) d) else ((0, 0), 1)
def centsR (a b mode : Int) : Int × Int := let x := roundR a b 1 1 mode; if x.2 = 0 then (x.1.1, 0) else (0, x.2)
def partR (amount num den unit mode : Int) : Int × Int :=
  if amount < -1000000000000 ∨ 1000000000000 < amount ∨ num < 0 ∨ 1000000 < num ∨ den < 1 ∨ 1000000 < den ∨ unit < 1 ∨ 1000000 < unit ∨ modeB mode = false then (0, 2)
  else let x := rndS (amount * num) (den * unit) mode * unit; if x < -1000000000000 ∨ 1000000000000 < x then (0, 4) else (x, 0)
def carryR (ra rb a b c d mode : Int) : (Int × Int) × (Int × Int) × Int :=
  let s := addR ra rb a b
  if s.2 ≠ 0 then ((0, 0), (0, 0), s.2) else
  let p := roundR s.1.1 s.1.2 c d mode
  if p.2 ≠ 0 then ((0, 0), (0, 0), p.2) else
  let l := subR s.1.1 s.1.2 p.1.1 p.1.2
  if l.2 ≠ 0 then ((0, 0), (0, 0), l.2) else (p.1, l.1, 0)
theorem roundR_bd (a b c d m : Int) : -1000000000000 ≤ (roundR a b c d m).1.1 ∧ (roundR a b c d m).1.1 ≤ 1000000000000 := by
  unfold roundR; split
  · split
    · simp
    · exact newS_bd _ _
  · simp
theorem newS_err (n d : Int) (h : (newS n d).2 ≠ 0) : (newS n d).1 = (0, 0) := by
  unfold newS at *
  split at h
  · rename_i h0; rw [if_pos h0]
  · rename_i h0
    rw [if_neg h0]
    unfold fitS fitG at *
    split at h
    · rename_i h1; rw [if_pos h1]
    · simp at h
theorem roundR_err (a b c d m : Int) (h : (roundR a b c d m).2 ≠ 0) : (roundR a b c d m).1 = (0, 0) := by
  unfold roundR at *
  split at h
  · rename_i h0
    rw [if_pos h0]
    split at h
    · rename_i h1; rw [if_pos h1]
    · rename_i h1; rw [if_neg h1]; exact newS_err _ _ h
  · rename_i h0; rw [if_neg h0]
abbrev vIE (r : Int × Int) : PV := .tup 2 (nthP [vi r.1, vi r.2])
abbrev vCE (r : (Int × Int) × (Int × Int) × Int) : PV := .tup 3 (nthP [vr r.1.1 r.1.2, vr r.2.1.1 r.2.1.2, vi r.2.2])
theorem rndS_exact {k d : Int} (m : Int) (hd : 0 < d) : rndS (k * d) d m = k := by
  rw [rndS, if_pos (Int.mul_emod_left k d), Int.mul_ediv_cancel k (by omega)]
theorem rndS_mono {n1 d1 n2 d2 : Int} (m : Int) (h1 : 0 < d1) (h2 : 0 < d2) (h : n1 * d2 ≤ n2 * d1) : rndS n1 d1 m ≤ rndS n2 d2 m := by
  have a1 := Int.emod_add_mul_ediv n1 d1
  have a2 := Int.emod_add_mul_ediv n2 d2
  have b1 := Int.emod_nonneg n1 (show d1 ≠ 0 by omega)
  have b2 := Int.emod_nonneg n2 (show d2 ≠ 0 by omega)
  have c1 := Int.emod_lt_of_pos n1 h1
  have c2 := Int.emod_lt_of_pos n2 h2
  unfold rndS
  generalize n1 / d1 = q1 at *
  generalize n2 / d2 = q2 at *
  generalize n1 % d1 = r1 at *
  generalize n2 % d2 = r2 at *
  subst a1 a2
  have e1 : (r1 + d1 * q1) * d2 = r1 * d2 + d1 * d2 * q1 := by rw [Int.add_mul, Int.mul_right_comm]
  have e2 : (r2 + d2 * q2) * d1 = r2 * d1 + d1 * d2 * q2 := by rw [Int.add_mul, Int.mul_comm d2 q2, Int.mul_comm d1 d2, Int.mul_assoc, Int.mul_comm q2]
  rw [e1, e2] at h
  have f1 : 0 ≤ r1 * d2 := Int.mul_nonneg b1 (by omega)
  have f2 : r2 * d1 < d1 * d2 := by rw [Int.mul_comm d1 d2]; exact Int.mul_lt_mul_of_pos_right c2 h1
  have hdd : 0 < d1 * d2 := Int.mul_pos h1 h2
  have hq : q1 ≤ q2 := by
    apply Int.not_lt.1
    intro hlt
    have : d1 * d2 * (q2 + 1) ≤ d1 * d2 * q1 := Int.mul_le_mul_of_nonneg_left (by omega) (by omega)
    rw [Int.mul_add] at this
    omega
  by_cases hlt : q1 < q2
  · have u1 : (if r1 = 0 then q1 else if upS q1 (cmpS r1 (d1 - r1)) (decide (0 < r1 + d1 * q1)) m = true then q1 + 1 else q1) ≤ q1 + 1 := by
      split
      · omega
      · split <;> omega
    have u2 : q2 ≤ (if r2 = 0 then q2 else if upS q2 (cmpS r2 (d2 - r2)) (decide (0 < r2 + d2 * q2)) m = true then q2 + 1 else q2) := by
      split
      · omega
      · split <;> omega
    omega
  · have hqq : q1 = q2 := by omega
    subst hqq
    have hr : r1 * d2 ≤ r2 * d1 := by omega
    by_cases hr1 : r1 = 0
    · rw [if_pos hr1]
      split
      · omega
      · split <;> omega
    · have hr2 : r2 ≠ 0 := by
        intro h0
        subst h0
        have : 0 < r1 * d2 := Int.mul_pos (by omega) h2
        omega
      rw [if_neg hr1, if_neg hr2]
      have pos : ∀ r d : Int, 0 < r → r < d → (decide (0 < r + d * q1) = decide (0 ≤ q1)) := fun r d h3 h4 => by
        by_cases hq0 : 0 ≤ q1
        · have := Int.mul_nonneg (show 0 ≤ d by omega) hq0
          rw [decide_eq_true hq0, decide_eq_true (by omega)]
        · have : d * q1 ≤ d * (-1) := Int.mul_le_mul_of_nonneg_left (by omega) (by omega)
          rw [decide_eq_false hq0, decide_eq_false (by omega)]
      rw [pos r1 d1 (by omega) c1, pos r2 d2 (by omega) c2]
      have hs : cmpS r1 (d1 - r1) ≤ cmpS r2 (d2 - r2) ∧ (cmpS r1 (d1 - r1) = -1 ∨ cmpS r1 (d1 - r1) = 0 ∨ cmpS r1 (d1 - r1) = 1) ∧ (cmpS r2 (d2 - r2) = -1 ∨ cmpS r2 (d2 - r2) = 0 ∨ cmpS r2 (d2 - r2) = 1) := by
        have key : ∀ x y : Int, x * d2 ≤ y * d1 → (d1 ≤ x → d2 ≤ y) ∧ (d1 < x → d2 < y) := fun x y hxy => by
          constructor
          · intro hx
            apply Int.not_lt.1
            intro hy
            have k1 : d1 * d2 ≤ x * d2 := Int.mul_le_mul_of_nonneg_right hx (by omega)
            have k2 : y * d1 < d2 * d1 := Int.mul_lt_mul_of_pos_right hy h1
            rw [Int.mul_comm d2 d1] at k2
            omega
          · intro hx
            apply Int.not_le.1
            intro hy
            have k1 : d1 * d2 < x * d2 := Int.mul_lt_mul_of_pos_right hx h2
            have k2 : y * d1 ≤ d2 * d1 := Int.mul_le_mul_of_nonneg_right hy (by omega)
            rw [Int.mul_comm d2 d1] at k2
            omega
        have := key (2 * r1) (2 * r2) (by rw [Int.mul_assoc, Int.mul_assoc]; omega)
        unfold cmpS
        split <;> split <;> (try split) <;> (try split) <;> omega
      obtain ⟨s0, s1, s2⟩ := hs
      generalize cmpS r1 (d1 - r1) = t1 at *
      generalize cmpS r2 (d2 - r2) = t2 at *
      have : upS q1 t1 (decide (0 ≤ q1)) m = true → upS q1 t2 (decide (0 ≤ q1)) m = true := by
        unfold upS
        rcases s1 with rfl | rfl | rfl <;> rcases s2 with rfl | rfl | rfl <;> first | omega | (intro hx; simpa using hx) | skip
        all_goals (by_cases a1 : m = 0 <;> by_cases a2 : m = 1 <;> by_cases a3 : m = 2 <;> by_cases a4 : m = 3 <;> simp_all)
      split
      · rename_i hu; rw [if_pos (this hu)]; omega
      · split <;> omega
theorem rndS_cong {n1 d1 n2 d2 : Int} (m : Int) (h1 : 0 < d1) (h2 : 0 < d2) (h : n1 * d2 = n2 * d1) : rndS n1 d1 m = rndS n2 d2 m :=
  Int.le_antisymm (rndS_mono m h1 h2 (Int.le_of_eq h)) (rndS_mono m h2 h1 (Int.le_of_eq h.symm))
theorem nat_red {N D N' D' : Nat} (hD : 0 < D) (hD' : 0 < D') (h : N * D' = N' * D) : N / Nat.gcd N D = N' / Nat.gcd N' D' ∧ D / Nat.gcd N D = D' / Nat.gcd N' D' := by
  have e1 : Nat.gcd (N * D') (D * D') = Nat.gcd N D * D' := Nat.gcd_mul_right N D' D
  have e2 : Nat.gcd (N' * D) (D' * D) = Nat.gcd N' D' * D := Nat.gcd_mul_right N' D D'
  have e3 : Nat.gcd N D * D' = Nat.gcd N' D' * D := by rw [← e1, ← e2, h, Nat.mul_comm D D']
  have g1 : 0 < Nat.gcd N D := Nat.gcd_pos_of_pos_right _ hD
  have g2 : 0 < Nat.gcd N' D' := Nat.gcd_pos_of_pos_right _ hD'
  obtain ⟨a, ha⟩ := Nat.gcd_dvd_left N D
  obtain ⟨b, hb⟩ := Nat.gcd_dvd_right N D
  obtain ⟨a', ha'⟩ := Nat.gcd_dvd_left N' D'
  obtain ⟨b', hb'⟩ := Nat.gcd_dvd_right N' D'
  rw [Nat.div_eq_of_eq_mul_right g1 ha, Nat.div_eq_of_eq_mul_right g1 hb, Nat.div_eq_of_eq_mul_right g2 ha', Nat.div_eq_of_eq_mul_right g2 hb']
  generalize Nat.gcd N D = g at *
  generalize Nat.gcd N' D' = g' at *
  have hbb : b = b' := by
    rw [hb, hb'] at e3
    have : g * g' * b' = g * g' * b := by
      rw [Nat.mul_assoc, e3, ← Nat.mul_assoc, Nat.mul_comm g' g]
    exact (Nat.eq_of_mul_eq_mul_left (Nat.mul_pos g1 g2) this).symm
  refine ⟨?_, hbb⟩
  subst hbb
  have hb0 : 0 < b := Nat.pos_of_ne_zero fun h0 => by subst h0; simp at hb; omega
  rw [ha, ha', hb, hb'] at h
  have : g * g' * b * a = g * g' * b * a' := by
    calc g * g' * b * a = g * a * (g' * b) := by rw [Nat.mul_assoc g, Nat.mul_assoc g, Nat.mul_assoc g]; congr 1; rw [Nat.mul_comm]
      _ = g' * a' * (g * b) := h
      _ = g * g' * b * a' := by
        rw [Nat.mul_comm (g' * a') (g * b), ← Nat.mul_assoc (g * b) g' a', Nat.mul_right_comm g b g']
  exact Nat.eq_of_mul_eq_mul_left (Nat.mul_pos (Nat.mul_pos g1 g2) hb0) this
def redN (n d : Int) : Nat := n.natAbs / Nat.gcd n.natAbs d.natAbs
def redD (n d : Int) : Nat := d.natAbs / Nat.gcd n.natAbs d.natAbs
theorem newS_eq {n d : Int} (hd : 0 < d) : newS n d = if 1000000000000 < redN n d ∨ 1000000 < redD n d then ((0, 0), 4) else ((if n < 0 then -(redN n d : Int) else redN n d, (redD n d : Int)), 0) := by
  have e0 : (decide (d < 0)) = false := decide_eq_false (by omega)
  have e1 : (n.natAbs : Int) / ((Int.gcd (n.natAbs : Int) (d.natAbs : Int) : Nat) : Int) = (redN n d : Int) := by simp [redN, Int.gcd]
  have e2 : (d.natAbs : Int) / ((Int.gcd (n.natAbs : Int) (d.natAbs : Int) : Nat) : Int) = (redD n d : Int) := by simp [redD, Int.gcd]
  rw [newS, if_neg (by omega), fitS, fitG, e1, e2, e0]
  by_cases hc : 1000000000000 < redN n d ∨ 1000000 < redD n d
  · rw [if_pos hc, if_pos (by omega)]
  · rw [if_neg hc, if_neg (by omega)]
    by_cases hn : n < 0 <;> simp [hn]
theorem newS_cong {n d n' d' : Int} (hd : 0 < d) (hd' : 0 < d') (h : n * d' = n' * d) : newS n d = newS n' d' := by
  have hs : n < 0 ↔ n' < 0 := by
    constructor
    · intro hn
      have : n * d' < 0 := Int.mul_neg_of_neg_of_pos hn hd'
      rw [h] at this
      exact Int.not_le.1 fun h0 => absurd (Int.mul_nonneg h0 (by omega : 0 ≤ d)) (by omega)
    · intro hn
      have : n' * d < 0 := Int.mul_neg_of_neg_of_pos hn hd
      rw [← h] at this
      exact Int.not_le.1 fun h0 => absurd (Int.mul_nonneg h0 (by omega : 0 ≤ d')) (by omega)
  have hN : n.natAbs * d'.natAbs = n'.natAbs * d.natAbs := by rw [← Int.natAbs_mul, ← Int.natAbs_mul, h]
  obtain ⟨e1, e2⟩ := nat_red (show 0 < d.natAbs by omega) (show 0 < d'.natAbs by omega) hN
  rw [newS_eq hd, newS_eq hd']
  have r1 : redN n d = redN n' d' := e1
  have r2 : redD n d = redD n' d' := e2
  rw [r1, r2]
  by_cases hn : n < 0
  · have := hs.1 hn; simp [hn, this]
  · have : ¬ n' < 0 := fun h => hn (hs.2 h)
    simp [hn, this]
theorem newS_of_ok {a b : Int} (h : okR a b = true) : newS a b = ((a, b), 0) := by
  obtain ⟨h1, h2, h3, h4⟩ := okR_bd h
  have hg : Nat.gcd a.natAbs b.natAbs = 1 := okR_gcd h
  have e1 : redN a b = a.natAbs := by simp [redN, hg]
  have e2 : redD a b = b.natAbs := by simp [redD, hg]
  rw [newS_eq (by omega), e1, e2, if_neg (by omega)]
  by_cases ha : a < 0
  · rw [if_pos ha]; congr 2 <;> omega
  · rw [if_neg ha]; congr 2 <;> omega
theorem newS_to {n d a b : Int} (hd : 0 < d) (h : okR a b = true) (e : n * b = a * d) : newS n d = ((a, b), 0) := by
  rw [newS_cong hd (show 0 < b by have := okR_bd h; omega) e, newS_of_ok h]
theorem newS_cases {n d : Int} (hd : 0 < d) : newS n d = ((0, 0), 4) ∨ ∃ a b, newS n d = ((a, b), 0) ∧ okR a b = true ∧ n * b = a * d := by
  rw [newS_eq hd]
  split
  · exact .inl rfl
  · rename_i hc
    refine .inr ⟨_, _, rfl, ?_, ?_⟩
    · have g1 : 0 < Nat.gcd n.natAbs d.natAbs := Nat.gcd_pos_of_pos_right _ (by omega)
      obtain ⟨a, ha⟩ := Nat.gcd_dvd_left n.natAbs d.natAbs
      obtain ⟨b, hb⟩ := Nat.gcd_dvd_right n.natAbs d.natAbs
      have q1 : redN n d = a := Nat.div_eq_of_eq_mul_right g1 ha
      have q2 : redD n d = b := Nat.div_eq_of_eq_mul_right g1 hb
      have hcop : Nat.gcd a b = 1 := by
        have e : Nat.gcd n.natAbs d.natAbs * Nat.gcd a b = Nat.gcd n.natAbs d.natAbs * 1 := by
          rw [← Nat.gcd_mul_left, ← ha, ← hb, Nat.mul_one]
        exact Nat.eq_of_mul_eq_mul_left g1 e
      have hb0 : 0 < b := Nat.pos_of_ne_zero fun h0 => by subst h0; simp at hb; omega
      rw [q1, q2] at hc ⊢
      simp only [okR, decide_eq_true_eq]
      refine ⟨by omega, by omega, ?_, ?_, ?_⟩
      · split <;> omega
      · split <;> omega
      · split <;> simp [Int.gcd, hcop]
    · have g1 : 0 < Nat.gcd n.natAbs d.natAbs := Nat.gcd_pos_of_pos_right _ (by omega)
      obtain ⟨a, ha⟩ := Nat.gcd_dvd_left n.natAbs d.natAbs
      obtain ⟨b, hb⟩ := Nat.gcd_dvd_right n.natAbs d.natAbs
      have q1 : redN n d = a := Nat.div_eq_of_eq_mul_right g1 ha
      have q2 : redD n d = b := Nat.div_eq_of_eq_mul_right g1 hb
      rw [q1, q2]
      generalize Nat.gcd n.natAbs d.natAbs = g at *
      have hN : n.natAbs * b = a * d.natAbs := by rw [ha, hb, Nat.mul_comm g a, Nat.mul_assoc]
      have hI : (n.natAbs : Int) * b = a * (d.natAbs : Int) := by exact_mod_cast hN
      have hd' : (d.natAbs : Int) = d := by omega
      rw [hd'] at hI
      by_cases hn : n < 0
      · rw [if_pos hn]
        have : (n.natAbs : Int) = -n := by omega
        rw [this] at hI
        rw [Int.neg_mul] at hI ⊢
        omega
      · rw [if_neg hn]
        have : (n.natAbs : Int) = n := by omega
        rw [this] at hI; exact hI
theorem newS_spec {n d : Int} (hd : 0 < d) (h : (newS n d).2 = 0) : okR (newS n d).1.1 (newS n d).1.2 = true ∧ n * (newS n d).1.2 = (newS n d).1.1 * d := by
  rcases newS_cases hd with e | ⟨a, b, e, h1, h2⟩
  · rw [e] at h; simp at h
  · rw [e]; exact ⟨h1, h2⟩
theorem newS_err4 {n d : Int} (hd : 0 < d) (h : (newS n d).2 ≠ 0) : newS n d = ((0, 0), 4) := by
  rcases newS_cases hd with e | ⟨a, b, e, h1, h2⟩
  · exact e
  · rw [e] at h; simp at h
end Go.Proofs.YtcghpepighboaaaDoor
