import Derived.Test.YtoehdoghghpmjaaGreatDoorM4
import Derived.Test.YtoehdoghghpmjaaGreatDoorM2
import Derived.Deep.CutBlock
/- nat.Cmp. -/
namespace Go.Proofs.YtoehdoghghpmjaaGreatDoor
namespace Big
open Go.RowKit
theorem limbs_mono {a b : Nat} (h : a ≤ b) : (limbs a).length ≤ (limbs b).length :=
  length_limbs_le (Nat.lt_of_le_of_lt h (by have := val_lt (ok_limbs b); rwa [val_limbs] at this))
theorem size_lt {xs ys : List Nat} (h : Ok xs) (h' : Ok ys) (hs : size xs < size ys) : val xs < val ys := by
  rcases Nat.lt_or_ge (val xs) (val ys) with h1 | h1
  · exact h1
  · have := limbs_mono h1
    rw [← size_eq h, ← size_eq h'] at this
    omega
theorem val_drop_size {xs : List Nat} (h : Ok xs) : val (xs.drop (size xs)) = 0 := by
  have h1 := val_split xs (size xs) (size_le xs)
  rw [take_size h, val_limbs] at h1
  have h2 := pow_pos' (size xs)
  rcases Nat.eq_zero_or_pos (val (xs.drop (size xs))) with h3 | h3
  · exact h3
  · have := Nat.mul_pos h2 h3
    omega
end Big
end Go.Proofs.YtoehdoghghpmjaaGreatDoor
/- bits.Sub32, bits.Add32, nat.places. -/
namespace Go.Proofs.YtoehdoghghpmjaaGreatDoor
namespace Big
open Go.RowKit
theorem bits_u32_and (a b : Nat) (ha : a < 4294967296) (hb : b < 4294967296) : bits .and .u32 (a : Int) (b : Int) = ((a &&& b : Nat) : Int) := by
  have hx : a &&& b < 2 ^ 32 := Nat.and_lt_two_pow _ (by omega)
  have h1 : (BitVec.ofInt 32 (a : Int)).toNat = a := by
    rw [BitVec.ofInt_natCast, BitVec.toNat_ofNat]; exact Nat.mod_eq_of_lt (by omega)
  have h2 : (BitVec.ofInt 32 (b : Int)).toNat = b := by
    rw [BitVec.ofInt_natCast, BitVec.toNat_ofNat]; exact Nat.mod_eq_of_lt (by omega)
  show IntKind.u32.wrap ((BitVec.ofInt 32 (a : Int) &&& BitVec.ofInt 32 (b : Int)).toNat : Int) = _
  rw [BitVec.toNat_and, h1, h2, IntKind.wrap_u32]
  omega
theorem bits_u32_or (a b : Nat) (ha : a < 4294967296) (hb : b < 4294967296) : bits .or .u32 (a : Int) (b : Int) = ((a ||| b : Nat) : Int) := by
  have hx : a ||| b < 2 ^ 32 := Nat.or_lt_two_pow (by omega) (by omega)
  have h1 : (BitVec.ofInt 32 (a : Int)).toNat = a := by
    rw [BitVec.ofInt_natCast, BitVec.toNat_ofNat]; exact Nat.mod_eq_of_lt (by omega)
  have h2 : (BitVec.ofInt 32 (b : Int)).toNat = b := by
    rw [BitVec.ofInt_natCast, BitVec.toNat_ofNat]; exact Nat.mod_eq_of_lt (by omega)
  show IntKind.u32.wrap ((BitVec.ofInt 32 (a : Int) ||| BitVec.ofInt 32 (b : Int)).toNat : Int) = _
  rw [BitVec.toNat_or, h1, h2, IntKind.wrap_u32]
  omega
theorem bits_u32_xor (a b : Nat) (ha : a < 4294967296) (hb : b < 4294967296) : bits .xor .u32 (a : Int) (b : Int) = ((a ^^^ b : Nat) : Int) := by
  have hx : a ^^^ b < 2 ^ 32 := Nat.xor_lt_two_pow (by omega) (by omega)
  have h1 : (BitVec.ofInt 32 (a : Int)).toNat = a := by
    rw [BitVec.ofInt_natCast, BitVec.toNat_ofNat]; exact Nat.mod_eq_of_lt (by omega)
  have h2 : (BitVec.ofInt 32 (b : Int)).toNat = b := by
    rw [BitVec.ofInt_natCast, BitVec.toNat_ofNat]; exact Nat.mod_eq_of_lt (by omega)
  show IntKind.u32.wrap ((BitVec.ofInt 32 (a : Int) ^^^ BitVec.ofInt 32 (b : Int)).toNat : Int) = _
  rw [BitVec.toNat_xor, h1, h2, IntKind.wrap_u32]
  omega
theorem top_bit {n : Nat} (h : n < 4294967296) : n / 2147483648 = (n.testBit 31).toNat := by
  rw [Nat.testBit_eq_decide_div_mod_eq, show (2 : Nat) ^ 31 = 2147483648 from rfl]
  have : n / 2147483648 < 2 := by omega
  rcases Nat.lt_or_ge (n / 2147483648) 1 with h1 | h1
  · have : n / 2147483648 = 0 := by omega
    rw [this]; rfl
  · have : n / 2147483648 = 1 := by omega
    rw [this]; rfl
theorem top_is {n : Nat} (h : n < 4294967296) : n.testBit 31 = decide (2147483648 ≤ n) := by
  rw [Nat.testBit_eq_decide_div_mod_eq, show (2 : Nat) ^ 31 = 2147483648 from rfl]
  rw [decide_eq_decide]
  omega
/-- What bits.Sub32 reckons as its borrow. -/
theorem borrow32 {x y b d b' : Nat} (hx : x < 4294967296) (hy : y < 4294967296) (hb : b ≤ 1) (hd : d < 4294967296) (hb' : b' ≤ 1) (h : x + 4294967296 * b' = d + y + b) :
    bits .or .u32 (bits .and .u32 (bits .xor .u32 IntKind.u32.max (x : Int)) (y : Int)) (bits .and .u32 (bits .xor .u32 IntKind.u32.max (bits .xor .u32 (x : Int) (y : Int))) (((x : Int) - (y : Int) - (b : Int)) % 4294967296)) / 2147483648 = ((b' : Nat) : Int) := by
  have e1 : ((x : Int) - (y : Int) - (b : Int)) % 4294967296 = ((d : Nat) : Int) := by omega
  have e2 : IntKind.u32.max = ((4294967295 : Nat) : Int) := by rfl
  have l1 : x ^^^ y < 4294967296 := Nat.xor_lt_two_pow (n := 32) hx hy
  have l2 : 4294967295 ^^^ x < 4294967296 := Nat.xor_lt_two_pow (n := 32) (by decide) hx
  have l3 : 4294967295 ^^^ (x ^^^ y) < 4294967296 := Nat.xor_lt_two_pow (n := 32) (by decide) l1
  have l4 : (4294967295 ^^^ x) &&& y < 4294967296 := Nat.and_lt_two_pow (n := 32) _ hy
  have l5 : (4294967295 ^^^ (x ^^^ y)) &&& d < 4294967296 := Nat.and_lt_two_pow (n := 32) _ hd
  have l6 : (4294967295 ^^^ x) &&& y ||| (4294967295 ^^^ (x ^^^ y)) &&& d < 4294967296 := Nat.or_lt_two_pow (n := 32) l4 l5
  rw [e1, e2, bits_u32_xor _ _ (by decide) hx, bits_u32_xor _ _ hx hy, bits_u32_xor _ _ (by decide) l1, bits_u32_and _ _ l2 hy, bits_u32_and _ _ l3 hd, bits_u32_or _ _ l4 l5]
  have key : ((4294967295 ^^^ x) &&& y ||| (4294967295 ^^^ (x ^^^ y)) &&& d) / 2147483648 = b' := by
    rw [top_bit l6, Nat.testBit_or, Nat.testBit_and, Nat.testBit_and, Nat.testBit_xor, Nat.testBit_xor, Nat.testBit_xor, top_is hx, top_is hy, top_is hd, top_is (show 4294967295 < 4294967296 by decide)]
    by_cases hX : 2147483648 ≤ x <;> by_cases hY : 2147483648 ≤ y <;> by_cases hD : 2147483648 ≤ d <;> simp [hX, hY, hD] <;> omega
  omega
end Big
end Go.Proofs.YtoehdoghghpmjaaGreatDoor
/- nat.Shl. -/
namespace Go.Proofs.YtoehdoghghpmjaaGreatDoor
namespace Big
open Go.RowKit
/-- What nat.Shl holds after k digits. -/
def ShlAt (w0 wr : World) (xs : List Nat) (d s L k : Nat) (zs : List Nat) (c : Nat) : Prop :=
  zs.length = k ∧ Ok zs ∧ c < 2 ^ s ∧ val zs + 4294967296 ^ k * c = val (xs.take k) * 2 ^ s ∧
    Blk wr w0.heap.size 97 (cells (List.replicate d 0 ++ (zs ++ c :: List.replicate (L - k) 0))) ∧ Ext w0 wr
theorem ShlAt.step {w0 wr : World} {xs zs : List Nat} {d s L k c y : Nat} (h : ShlAt w0 wr xs d s L k zs c) (hk : k < L) (hs : s ≤ 31) (hok : Ok xs) (hy : y = xs.getD k 0 * 2 ^ s) :
    ShlAt w0 ((wr.setCell ⟨w0.heap.size, k + d, none⟩ (d32 (c + y % 4294967296))).setCell ⟨w0.heap.size, k + d + 1, none⟩ (d32 (y / 4294967296))) xs d s L (k + 1) (zs ++ [c + y % 4294967296]) (y / 4294967296) := by
  obtain ⟨hl, hoz, hc, hv, hb, he⟩ := h
  obtain ⟨p1, p2, p3⟩ := shl_parts (hok.get k) hs
  rw [← hy] at p1 p2 p3
  have hroom := shl_room hs hc p3 (Nat.mod_lt _ (by omega))
  refine ⟨by simp [hl], hoz.snoc hroom, p1, shl_step hl hv hy, ?_, (he.setCell (Nat.le_refl _) _).setCell (Nat.le_refl _) _⟩
  have h1 := (hb.set_ (k + d) (d32 (c + y % 4294967296))).set_ (k + d + 1) (d32 (y / 4294967296))
  rw [set_cells, set_cells] at h1
  have e1 : (List.replicate d 0 ++ (zs ++ c :: List.replicate (L - k) 0)).set (k + d) (c + y % 4294967296) = List.replicate d 0 ++ (zs ++ (c + y % 4294967296) :: List.replicate (L - k) 0) := by
    rw [List.set_append_right _ _ (by simp), List.length_replicate, show k + d - d = zs.length by omega, List.set_append_right _ _ (Nat.le_refl _), Nat.sub_self, List.set_cons_zero]
  have e2 : (List.replicate d 0 ++ (zs ++ (c + y % 4294967296) :: List.replicate (L - k) 0)).set (k + d + 1) (y / 4294967296) = List.replicate d 0 ++ (zs ++ [c + y % 4294967296] ++ (y / 4294967296) :: List.replicate (L - (k + 1)) 0) := by
    rw [List.set_append_right _ _ (by simp; omega), List.length_replicate, show k + d + 1 - d = zs.length + 1 by omega, List.set_append_right _ _ (by omega), Nat.add_sub_cancel_left, List.set_cons_succ, show L - k = (L - (k + 1)) + 1 by omega, List.replicate_succ, List.set_cons_zero, List.append_assoc]
    rfl
  rwa [e1, e2] at h1
theorem shl_get {d k c L : Nat} {zs : List Nat} (hl : zs.length = k) : (List.replicate d 0 ++ (zs ++ c :: List.replicate (L - k) 0)).getD (k + d) 0 = c := by
  rw [List.getD_eq_getElem?_getD, List.getElem?_append_right (by simp), List.length_replicate, show k + d - d = zs.length by omega, List.getElem?_append_right (Nat.le_refl _), Nat.sub_self]
  rfl
theorem shl_zeros (L d : Nat) : zeros (L + d + 1) = cells (List.replicate d 0 ++ ([] ++ 0 :: List.replicate (L - 0) 0)) := by
  rw [zeros_cells, List.nil_append, Nat.sub_zero, ← List.replicate_succ, List.replicate_append_replicate, show d + (L + 1) = L + d + 1 by omega]

end Big
end Go.Proofs.YtoehdoghghpmjaaGreatDoor
/- quotient.digit. -/
namespace Go.Proofs.YtoehdoghghpmjaaGreatDoor
namespace Big
open Go.RowKit
theorem get_cellsR (xs : List Nat) (RX : Array Value) (i : Nat) (h : i < xs.length) : (cells xs ++ RX)[i]? = some (d32 (xs.getD i 0)) := by
  rw [Array.getElem?_append_left (by rw [size_cells]; exact h), get_cells xs i h]
theorem set_cellsR (xs : List Nat) (RX : Array Value) (i y : Nat) (h : i < xs.length) : (cells xs ++ RX).setIfInBounds i (d32 y) = cells (xs.set i y) ++ RX := by
  rw [← set_cells]
  apply Array.ext'
  simp only [Array.toList_setIfInBounds, Array.toList_append]
  rw [List.set_append_left _ _ (by simpa [cells] using h)]
/-- A slice of digits in another block than the one that is written. -/
theorem Arr.kept {w w' : World} {g : Nat} {v : Value} {ys : List Nat} (h : Arr w v ys) (hg : w.grownBy w' (some g)) (hne : ∀ b o n c, v = .slice (some ⟨b, o, none⟩) n c → b ≠ g) : Arr w' v ys := by
  obtain ⟨hok, A, c, rfl, hc, hm, hcell⟩ := h.open
  refine Arr.mk hok hc hm fun hp => ?_
  obtain ⟨b, o, rfl, hb, h1⟩ := hcell hp
  refine ⟨b, o, rfl, Nat.lt_of_lt_of_le hb hg.size, fun j hj => ?_⟩
  have h2 := hg.block b hb (by simpa using hne b o _ _ rfl)
  rw [← h1 j hj]
  simp [World.cell?, h2]

/-- Only draws lie between the two. -/
structure Dr (w w' : World) : Prop where
  heap : w'.heap = w.heap
  grown : ∀ g, w.grownBy w' g
theorem Dr.refl (w : World) : Dr w w := ⟨rfl, fun _ => ⟨rfl, rfl, rfl, Nat.le_refl _, fun _ _ _ => rfl⟩⟩
theorem Dr.drewN {w w' : World} (h : Dr w w') (n : Nat) : Dr w (w'.drewN n) := ⟨h.heap, fun g => ⟨(h.grown g).os, (h.grown g).tape, (h.grown g).output, (h.grown g).size, (h.grown g).block⟩⟩
theorem Dr.cell {w w' : World} (h : Dr w w') (p : Addr) : w'.cell? p = w.cell? p := by
  have := h.heap
  simp [World.cell?, this]
theorem Dr.blk {w w' : World} {g : Nat} {t : TypeId} {cs : Array Value} (h : Dr w w') (hb : Blk w g t cs) : Blk w' g t cs := by
  unfold Blk
  rw [h.heap]
  exact hb

/-- What quotient.digit holds after i digits of the subtraction. -/
def MsubAt (RX : Array Value) (w0 wr : World) (g k n : Nat) (us ys : List Nat) (G i c b : Nat) (zs : List Nat) : Prop :=
  zs.length = i ∧ Ok zs ∧ c < 4294967296 ∧ b ≤ 1 ∧ val zs + G * val (ys.take i) = val ((seg us k n).take i) + 4294967296 ^ i * (c + b) ∧
    Blk wr g 97 (cells (over us k zs) ++ RX) ∧ w0.grownBy wr (some g)
theorem grown_set {w0 wr : World} {g : Nat} (h : w0.grownBy wr (some g)) (i : Nat) (u : Value) : w0.grownBy (wr.setCell ⟨g, i, none⟩ u) (some g) :=
  ⟨h.os, h.tape, h.output, by simpa using h.size, fun b hb hne => by
    rw [← h.block b hb hne]
    exact Below.heap_setCell wr ⟨g, i, none⟩ u b (by simpa using hne)⟩
theorem MsubAt.step {RX : Array Value} {w0 wr : World} {g k n G i c b t d b' : Nat} {us ys zs : List Nat} (h : MsubAt RX w0 wr g k n us ys G i c b zs) (hi : i < n) (hk : k + n + 1 ≤ us.length)
    (ht : t = c + G * ys.getD i 0) (htm : t < 18446744073709551616) (hd : us.getD (k + i) 0 + 4294967296 * b' = d + t % 4294967296 + b) (hdm : d < 4294967296) (hb' : b' ≤ 1) :
    MsubAt RX w0 (wr.setCell ⟨g, k + i, none⟩ (d32 d)) g k n us ys G (i + 1) (t / 4294967296) b' (zs ++ [d]) := by
  obtain ⟨hl, hok, hc, hb, hv, hblk, hgr⟩ := h
  refine ⟨by simp [hl], hok.snoc hdm, Nat.div_lt_of_lt_mul (by omega), hb', msub_step hl hv ht (by rw [seg_get (by omega)]; exact hd), ?_, grown_set hgr _ _⟩
  have h1 := hblk.set_ (k + i) (d32 d)
  have h2 := over_set (us := us) (zs := zs) (k := k) (d := d) (by omega)
  rw [hl] at h2
  rw [set_cellsR _ _ _ _ (by simp [over]; omega), h2] at h1
  exact h1
/-- What it holds after i digits of the addition. -/
def AddbAt (RX : Array Value) (w0 wr : World) (g k : Nat) (us xs ys : List Nat) (i a : Nat) (zz : List Nat) : Prop :=
  zz.length = i ∧ Ok zz ∧ a ≤ 1 ∧ val zz + 4294967296 ^ i * a = val (xs.take i) + val (ys.take i) ∧ Blk wr g 97 (cells (over (over us k xs) k zz) ++ RX) ∧ w0.grownBy wr (some g)
theorem AddbAt.step {RX : Array Value} {w0 wr : World} {g k i a t : Nat} {us xs ys zz : List Nat} (h : AddbAt RX w0 wr g k us xs ys i a zz) (hi : k + i < us.length) (hk : k + xs.length ≤ us.length) (htm : t < 8589934592)
    (ht : t = xs.getD i 0 + ys.getD i 0 + a) : AddbAt RX w0 (wr.setCell ⟨g, k + i, none⟩ (d32 (t % 4294967296))) g k us xs ys (i + 1) (t / 4294967296) (zz ++ [t % 4294967296]) := by
  obtain ⟨hl, hok, ha, hv, hblk, hgr⟩ := h
  refine ⟨by simp [hl], hok.snoc (Nat.mod_lt _ (by omega)), by omega, addb_step hl hv (by omega), ?_, grown_set hgr _ _⟩
  have h1 := hblk.set_ (k + i) (d32 (t % 4294967296))
  have h2 := over_set (us := over us k xs) (zs := zz) (k := k) (d := t % 4294967296) (by rw [over_length hk]; omega)
  rw [hl] at h2
  rw [set_cellsR _ _ _ _ (by simp [over]; omega), h2] at h1
  exact h1
end Big
end Go.Proofs.YtoehdoghghpmjaaGreatDoor
