import Derived.Test.YtoehdoghghpmjaaGreatDoorM12
import Derived.Test.YtoehdoghghpmjaaGreatDoorM7
import Derived.Test.YtoehdoghghpmjaaGreatDoorM5
import Derived.Test.YtoehdoghghpmjaaGreatDoorM1
import Derived.Test.YtoehdoghghpmjaaGreatDoorM9
namespace Go.Proofs.YtoehdoghghpmjaaGreatDoor
namespace Big
open Go.RowKit
/-- What decimal.Natural holds after k digits. -/
def NumAt (w0 wr : World) (out : Value) (l : List UInt8) (k j c : Nat) : Prop :=
  ∃ a : Nat, Own w0.heap.size wr out (limbs a) ∧ numOf (l.take k) = a * 10 ^ j + c ∧ a < 10 ^ k ∧ Ext w0 wr

/-- What reading a natural returns. -/
def NatRes (w0 : World) (r : Nat × Nat) (e : Ending) (w' : World) : Prop :=
  ∃ v' : Value, e = .returned (.tuple #[v', .int .i64 (r.2 : Int)]) ∧ Own w0.heap.size w' v' (limbs r.1) ∧ Ext w0 w'

end Big
end Go.Proofs.YtoehdoghghpmjaaGreatDoor
namespace Go.Proofs.YtoehdoghghpmjaaGreatDoor
namespace Big
open Go.RowKit
end Big
end Go.Proofs.YtoehdoghghpmjaaGreatDoor
namespace Go.Proofs.YtoehdoghghpmjaaGreatDoor
namespace Big
open Go.RowKit

/-- What reading an integer gives: the number and the error code. -/
def parseI (l : List UInt8) : Int × Nat :=
  if 20001 < l.length then (0, 7)
  else
    let neg := l.head? == some 45
    let r := natural (if neg then l.tail else l)
    if r.2 ≠ 0 ∨ (neg = true ∧ r.1 = 0) then (0, 6) else (sgn neg r.1, 0)
def ParseRes (w0 : World) (r : Int × Nat) (e : Ending) (w' : World) : Prop :=
  ∃ v' : Value, e = .returned (.tuple #[v', .int .i64 (r.2 : Int)]) ∧ IsInt w0.heap.size w' v' r.1 ∧ Ext w0 w'
theorem IsInt.zero (B : Nat) (w : World) : IsInt B w (.agg #[.bool false, .slice none 0 0]) 0 := ⟨_, by simp, Own.none_ _ _⟩

theorem natural_len (l : List UInt8) : ∃ k, k ≤ 20001 ∧ (natural l).1 < 10 ^ k := by
  unfold natural
  split
  · exact ⟨0, by omega, by simp⟩
  · rename_i h
    split
    · exact ⟨0, by omega, by simp⟩
    · split
      · exact ⟨0, by omega, by simp⟩
      · split
        · rename_i h4
          exact ⟨l.length, by omega, numOf_lt l h4⟩
        · exact ⟨0, by omega, by simp⟩
theorem natural_limbs (l : List UInt8) {n e : Nat} (h : natural l = (n, e)) : (limbs n).length ≤ 20001 := by
  obtain ⟨k, hk, hlt⟩ := natural_len l
  rw [h] at hlt
  exact Nat.le_trans (limbs_len_pow hlt) hk
theorem head_byte (l : List UInt8) (h : 0 < l.length) : (l.head? == some 45) = decide (byteAt l 0 = 45) := by
  cases l with
  | nil => simp at h
  | cons a t =>
    show (some a == some 45) = decide (a.toNat = 45)
    by_cases ha : a = 45
    · subst ha; rfl
    · have : a.toNat ≠ 45 := fun he => ha (UInt8.toNat_inj.1 he)
      simp [ha, this]
end Big
end Go.Proofs.YtoehdoghghpmjaaGreatDoor
namespace Go.Proofs.YtoehdoghghpmjaaGreatDoor
namespace Big
open Go.RowKit

theorem parse_m0 : parseI [45, 48] = (0, 6) := by decide
theorem parse_01 : parseI [48, 49] = (0, 6) := by decide
theorem fmt_m12 : fmtI (-12) = [45, 49, 50] := by decide
theorem hex_255 : hex16 255 = [48, 48, 48, 48, 48, 48, 48, 48, 48, 48, 48, 48, 48, 48, 102, 102] := by decide

end Big
end Go.Proofs.YtoehdoghghpmjaaGreatDoor
