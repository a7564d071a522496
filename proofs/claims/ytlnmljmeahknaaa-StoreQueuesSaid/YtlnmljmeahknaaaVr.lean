/- Small facts that walks want. No condition. -/
import Derived.Test.YtlnmljmeahknaaaVp
namespace Go.Vc
set_option linter.unusedSimpArgs false
open Go
set_option linter.unusedVariables false

theorem w64 {n : Int} (h : -9223372036854775808 ≤ n ∧ n ≤ 9223372036854775807) : IntKind.i64.wrap n = n := by rw [IntKind.wrap_i64]; omega
theorem w32 {n : Int} (h : -2147483648 ≤ n ∧ n ≤ 2147483647) : IntKind.i32.wrap n = n := by rw [IntKind.wrap_i32]; omega

theorem exF {α : Type} {p q : α → Prop} {d : α} (h1 : p d) (h2 : q d) : ∃ d, p d ∧ q d := ⟨d, h1, h2⟩

theorem runesS_one {n : Int} (h : 0 ≤ n ∧ n < 128) : runesS [n] = ⟨#[UInt8.ofNat n.toNat]⟩ := by
  have hv : Utf8.valid n = true := by simp [Utf8.valid]; omega
  have hlt : n.toNat < 0x80 := by omega
  simp only [runesS, List.foldl_cons, List.foldl_nil, Utf8.encode, hv, if_true, hlt]
  rfl

theorem bytesS_one (n : Int) : bytesS [n] = ⟨#[UInt8.ofNat n.toNat]⟩ := rfl
theorem wu8 {n : Int} (h : 0 ≤ n ∧ n ≤ 255) : IntKind.u8.wrap n = n := by rw [IntKind.wrap_u8]; omega

abbrev iD (n : Int) : D := .is (.int .i64 n)
abbrev bD (b : Bool) : D := .is (.bool b)
abbrev sD (s : ByteArray) : D := .is (.string s)

theorem quo64 {n k : Int} (h : 0 ≤ n) (hk : 1 ≤ k) (hb : n ≤ 9223372036854775807) : IntKind.i64.wrap (n.tdiv k) = n / k := by
  rw [Int.tdiv_eq_ediv_of_nonneg h, w64]
  have h1 : 0 ≤ n / k := Int.ediv_nonneg h (by omega)
  have h2 : n / k ≤ n := Int.ediv_le_self k h
  omega
theorem rem_pos {n k : Int} (h : 0 ≤ n) : n.tmod k = n % k := Int.tmod_eq_emod_of_nonneg h

end Go.Vc
