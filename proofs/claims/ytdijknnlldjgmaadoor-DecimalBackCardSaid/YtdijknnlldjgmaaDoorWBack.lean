import Derived.Test.YtdijknnlldjgmaaDoorBack
/- DecimalBack: whatever came in. -/
namespace Go.Proofs.YtdijknnlldjgmaaDoor
namespace Big
theorem back_any (w : World) (neg : Bool) (v : Value) (xs : List Nat) (h : Arr w v xs) (hT : Tab16 w) :
    Calls Tryd.prog 4 #[.agg #[.bool neg, v]] w fun e w' => e = .returned (.bool true) ∧ Ext w w' := by
  rcases Nat.lt_or_ge 120 xs.length with hb | hs
  · obtain ⟨n, A, c, rfl⟩ := h.shape
    have := h.len
    exact back_big w neg A n c (by omega) hT
  · exact back_small w neg v xs h hs hT
end Big
end Go.Proofs.YtdijknnlldjgmaaDoor
