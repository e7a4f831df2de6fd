import Derived.Test.YtbmmnpggadakdaaDoorBytes
namespace Go.Proofs.YtbmmnpggadakdaaDoor
namespace Big
open Go.RowKit
theorem str_append (a b : List UInt8) : (⟨a.toArray⟩ : ByteArray) ++ ⟨b.toArray⟩ = ⟨(a ++ b).toArray⟩ := by
  apply ByteArray.ext
  simp
theorem run_add_str (a b : List UInt8) (h : a.length + b.length ≤ 2147483648) (W : World) : (binOp .add 9 (str a) (str b)).run Tryd.prog W = .ok (str (a ++ b)) W := by
  unfold str
  simp [go_sem, str_append]
  omega
theorem digit_ext (r : Nat) (h : r < 10) : (⟨#[48, 49, 50, 51, 52, 53, 54, 55, 56, 57]⟩ : ByteArray).extract r (r + 1) = ⟨[UInt8.ofNat (48 + r)].toArray⟩ := by
  have : r = 0 ∨ r = 1 ∨ r = 2 ∨ r = 3 ∨ r = 4 ∨ r = 5 ∨ r = 6 ∨ r = 7 ∨ r = 8 ∨ r = 9 := by omega
  rcases this with rfl | rfl | rfl | rfl | rfl | rfl | rfl | rfl | rfl | rfl <;> rfl
theorem run_add_digit (r : Nat) (h : r < 10) (t : List UInt8) (ht : t.length ≤ 1073741824) (W : World) :
    (binOp .add 9 (.string ((⟨#[48, 49, 50, 51, 52, 53, 54, 55, 56, 57]⟩ : ByteArray).extract r (r + 1))) (str t)).run Tryd.prog W = .ok (str (UInt8.ofNat (48 + r) :: t)) W := by
  rw [digit_ext r h]
  exact run_add_str [UInt8.ofNat (48 + r)] t (by simp; omega) W
theorem run_index_str (l : List UInt8) (k : Nat) (h : k < l.length) (W : World) :
    (Instr.index 9 (.string ⟨l.toArray⟩) (.int .i64 (k : Int))).run Tryd.prog W = .ok (d8 l[k]) W := by
  have h1 := run_index_string (P := Tryd.prog) W 9 ⟨l.toArray⟩ .i64 (k : Int) Tryd.underlying9
  have hs : (⟨l.toArray⟩ : ByteArray).size = l.length := by simp [ByteArray.size]
  rw [h1, dif_pos ⟨by omega, by rw [hs]; omega⟩]
  rfl
end Big
end Go.Proofs.YtbmmnpggadakdaaDoor
