import Derived.Test.YtdijknnlldjgmaaDoorW12
/- Words for a walk: what a block known whole gives it. -/
namespace Go.Proofs.YtdijknnlldjgmaaDoor
namespace Big
open Go.RowKit
section
variable {w : World} {g : Nat} {t : TypeId} {a b c d e : Value}
theorem Blk.two (h : Blk w g t #[a, b]) : w.cell? ⟨g, 0, none⟩ = some a ∧ w.cell? ⟨g, 1, none⟩ = some b ∧ w.frozen? ⟨g, 0, none⟩ = false ∧ w.frozen? ⟨g, 1, none⟩ = false ∧ g < w.heap.size :=
  ⟨h.cell 0, h.cell 1, h.frozen 0, h.frozen 1, h.lt⟩
theorem Blk.three (h : Blk w g t #[a, b, c]) : w.cell? ⟨g, 0, none⟩ = some a ∧ w.cell? ⟨g, 1, none⟩ = some b ∧ w.cell? ⟨g, 2, none⟩ = some c ∧ w.frozen? ⟨g, 0, none⟩ = false ∧ w.frozen? ⟨g, 1, none⟩ = false ∧ w.frozen? ⟨g, 2, none⟩ = false ∧ g < w.heap.size :=
  ⟨h.cell 0, h.cell 1, h.cell 2, h.frozen 0, h.frozen 1, h.frozen 2, h.lt⟩
theorem RArr.shape {vs : List Value} (h : RArr w a vs) : ∃ n A c, a = .slice A n c := by
  obtain ⟨A, c, rfl, _⟩ := h
  exact ⟨_, A, c, rfl⟩
theorem Own.shape {B : Nat} {xs : List Nat} (h : Own B w a xs) : ∃ n A c, a = .slice A n c := h.arr.2.shape
theorem Arr.shape {xs : List Nat} (h : Arr w a xs) : ∃ n A c, a = .slice A n c := h.2.shape
theorem Arr.len {xs : List Nat} {n c : Nat} {A : Option Addr} (h : Arr w (.slice A n c) xs) : n = xs.length := by
  obtain ⟨_, A', c', he, _⟩ := h
  injection he with _ h2 _
  rw [h2, List.length_map]
theorem Own.len {B : Nat} {xs : List Nat} {n c : Nat} {A : Option Addr} (h : Own B w (.slice A n c) xs) : n = xs.length := h.arr.len
theorem IsInt.shape {B : Nat} {z : Int} (h : IsInt B w a z) : ∃ b n A c, a = .agg #[.bool b, .slice A n c] := by
  obtain ⟨m, rfl, h⟩ := h
  obtain ⟨n, A, c, rfl⟩ := h.shape
  exact ⟨_, n, A, c, rfl⟩
theorem ArrInt.shape {z : Int} (h : ArrInt w a z) : ∃ b n A c, a = .agg #[.bool b, .slice A n c] := by
  obtain ⟨m, rfl, h⟩ := h
  obtain ⟨n, A, c, rfl⟩ := h.shape
  exact ⟨_, n, A, c, rfl⟩
theorem IsInt.mag {B : Nat} {z : Int} {bb : Bool} {m : Value} (h : IsInt B w (.agg #[.bool bb, m]) z) : Own B w m (limbs z.natAbs) := by
  obtain ⟨m', he, h⟩ := h
  injection he with he
  injection he with he
  injection he with _ he
  injection he with he
  subst he
  exact h
theorem IsInt.sign {B : Nat} {z : Int} {bb : Bool} {m : Value} (h : IsInt B w (.agg #[.bool bb, m]) z) : bb = decide (z < 0) := by
  obtain ⟨m', he, h⟩ := h
  injection he with he
  injection he with he
  injection he with he _
  injection he
theorem ArrInt.mag {z : Int} {bb : Bool} {m : Value} (h : ArrInt w (.agg #[.bool bb, m]) z) : Arr w m (limbs z.natAbs) := by
  obtain ⟨m', he, h⟩ := h
  injection he with he
  injection he with he
  injection he with _ he
  injection he with he
  subst he
  exact h
theorem ArrInt.sign {z : Int} {bb : Bool} {m : Value} (h : ArrInt w (.agg #[.bool bb, m]) z) : bb = decide (z < 0) := by
  obtain ⟨m', he, h⟩ := h
  injection he with he
  injection he with he
  injection he with he _
  injection he
end
end Big
end Go.Proofs.YtdijknnlldjgmaaDoor
