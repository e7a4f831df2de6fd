import Derived.Test.YtgopljllknbelaaGreatDoorM19
import Derived.Test.YtgopljllknbelaaGreatDoorM5
import Derived.Test.YtgopljllknbelaaGreatDoorM3
import Derived.Test.YtgopljllknbelaaGreatDoorM6
import Derived.Test.YtgopljllknbelaaGreatDoorShelf
import Derived.Shelf.Strings.SlTrimAscii
import Derived.Test.YtgopljllknbelaaGreatDoorM15
import Derived.Deep.LoopGhost
import Derived.Lib.ItoaNum
import Derived.Test.YtgopljllknbelaaGreatDoorM4
/- ref19.Valid; ref20.Format at good trees; mill.Text. -/
namespace Go.Proofs.YtgopljllknbelaaGreatDoor
namespace Big
open Go.RowKit
set_option maxRecDepth 100000 in
theorem valid_any (w : World) (v : Value) (l : List Nd) (hr : RNd w v l) (hl : l.length ≤ 1000000) (htx : ∀ x ∈ l, x.text.length ≤ 1073741824) : Calls Tryz.prog 40 #[v] w fun e w' => e = .returned (.bool (validB l)) ∧ Ext w w' := by
  have HS := Lib.hid (sizes_any w v l hr hl htx)
  have HV : Hid (validB l = (decide (1 ≤ l.length ∧ l.length ≤ 200) && match szAll l with | none => false | some (_, D) => decide (D.getD (l.length - 1) 0 ≤ 40))) := Lib.hid rfl
  obtain ⟨A, c, rfl, _⟩ := hr
  generalize validB l = r at *
  clear htx
  obtain ⟨n, hn⟩ : ∃ n, n = l.length := ⟨_, rfl⟩
  have HN := Lib.hid hn
  rw [← hn] at hl HV HS ⊢
  clear hn
  by_cases h1 : n < 1
  · obtain rfl : n = 0 := by omega
    clear HS h1
    go_enter Tryz.func40, Tryz.ntmps40
    go_wp2_with fail
    go_ret
    exact ⟨by rw [HV.out]; rfl, Ext.refl w⟩
  · have h1b : decide ((n : Int) < 1) = false := decide_eq_false (by omega)
    have h1c : ¬ ((n : Int) < 1) := by omega
    by_cases h2 : 200 < n
    · have h2b : decide ((n : Int) > 200) = true := decide_eq_true (by omega)
      have h2c : (200 : Int) < (n : Int) := by omega
      have hd : decide (1 ≤ n ∧ n ≤ 200) = false := decide_eq_false (by omega)
      rw [hd] at HV
      clear HS h1 h2 hd
      go_enter Tryz.func40, Tryz.ntmps40
      go_wp2_with fail
      go_ret
      exact ⟨by rw [HV.out]; rfl, Ext.refl w⟩
    · have h2b : decide ((n : Int) > 200) = false := decide_eq_false (by omega)
      have h2c : ¬ (200 : Int) < (n : Int) := by omega
      have hd : decide (1 ≤ n ∧ n ≤ 200) = true := decide_eq_true (by omega)
      rw [hd, Bool.true_and] at HV
      have h1n : 1 ≤ n := by omega
      clear h1 h2 hd
      go_enter Tryz.func40, Tryz.ntmps40
      go_wp2_with fail
      refine HS.out.mono ?_
      rintro e w1 ⟨v1, v2, rfl, hx, hp⟩
      have HX := Lib.hid hx
      clear hx
      rcases hp with ⟨hs, rfl, rfl⟩ | ⟨S, D, hs, hsl, hdl, h4, h5⟩
      · rw [hs] at HV
        clear hs
        go_wp2_with fail
        go_ret
        exact ⟨by rw [HV.out]; rfl, HX.out⟩
      · rw [hs] at HV
        have HV2 : Hid (r = decide (D.getD (n - 1) 0 ≤ 40)) := Lib.hid HV.out
        clear HV
        obtain ⟨A4, c4, rfl, _⟩ := h4.open
        obtain ⟨A5, c5, rfl, h6⟩ := h5.open
        rw [← HN.out] at hsl hdl
        rw [hdl] at h6
        obtain ⟨g5, o5, rfl, _, h7⟩ := h6 (by omega)
        have h8 := h7 (n - 1) (by omega)
        obtain ⟨y, hy⟩ : ∃ y : Int, y = (n : Int) - 1 := ⟨_, rfl⟩
        have hj : y.toNat = n - 1 := by omega
        rw [← hj] at h8 HV2
        have hw : IntKind.i64.wrap ((n : Int) - 1) = y := by rw [IntWalk.i64_in _ (by omega), hy]
        have hq0 : (0 : Int) ≤ y := by omega
        have hq1 : y < (n : Int) := by omega
        generalize D.getD y.toNat 0 = dv at *
        have hs0 : (0 : Int) < (n : Int) := by omega
        have hdv : decide (dv ≤ 40) = decide ((dv : Int) ≤ 40) := by rw [decide_eq_decide]; omega
        have HDV := Lib.hid hdv
        rw [hsl, hdl]
        clear hs h4 h5 h6 h7 hj hy hdv hsl hdl
        go_wp2_with fail
        go_ret
        exact ⟨by rw [HV2.out, HDV.out]; rfl, HX.out⟩
theorem flat_text (e : Ex) (hg : e.Good) : ∀ off, ∀ x ∈ flat off e, x.text.length ≤ 1073741824 := by
  induction e with
  | leaf k t =>
    intro off x hx
    rw [flat, List.mem_singleton] at hx
    subst hx
    rcases hg with ⟨_, _, h⟩ | ⟨_, h⟩ | ⟨_, rfl⟩
    · simp only; omega
    · have := wordB_le (Bool.and_eq_true_iff.1 h).1
      simp only; omega
    · simp
  | un k n x ih =>
    intro off y hy
    rw [flat, List.mem_append, List.mem_singleton] at hy
    rcases hy with hy | rfl
    · exact ih hg.2.2.2.2 off y hy
    · simp
  | bin k x z ihx ihy =>
    intro off y hy
    rw [flat, List.mem_append, List.mem_append, List.mem_singleton] at hy
    rcases hy with hy | hy | rfl
    · exact ihx hg.2.1 _ y hy
    · exact ihy hg.2.2 _ y hy
    · simp
theorem AtEx.whole (e : Ex) : AtEx (flat 0 e) (e.size - 1) e := ⟨[], [], by simp, by have := e.size_pos; simp; omega⟩
set_option maxRecDepth 100000 in
theorem format20_any (w : World) (v : Value) (e : Ex) (hr : RNd w v (flat 0 e)) (hg : e.Good) (hs : e.size ≤ 200) (hd : e.depth ≤ 40) : Calls Tryz.prog 45 #[v] w fun r w' => r = .returned (str (nodeT fmtI e)) ∧ Ext w w' := by
  have hlen := flat_len e 0
  have HV := Lib.hid (valid_any w v (flat 0 e) hr (by omega) (flat_text e hg 0))
  rw [validB_flat e hg, decide_eq_true (And.intro hs hd)] at HV
  have HNO := Lib.hid (fun W h => node_any (flat 0 e) (by omega) e hg (by omega) W v (e.size - 1) ((e.size - 1 : Nat) : Int) h (AtEx.whole e) rfl)
  have HR := Lib.hid hr
  obtain ⟨A, c, rfl, _⟩ := hr
  have hz := e.size_pos
  have hj : ((e.size - 1 : Nat) : Int) = (e.size : Int) - 1 := by omega
  have hw : IntKind.i64.wrap ((e.size : Int) - 1) = (e.size : Int) - 1 := IntWalk.i64_in _ (by omega)
  rw [hj] at HNO
  rw [hlen] at HV HNO HR ⊢
  generalize e.size = n at *
  generalize nodeT fmtI e = s at *
  clear hlen hg hs hd hz hj
  go_enter Tryz.func45, Tryz.ntmps45
  go_wp2_with fail
  refine HV.out.mono ?_
  rintro r w1 ⟨rfl, hx1⟩
  have HX1 := Lib.hid hx1
  clear hx1
  go_wp2_with fail
  refine (HNO.out _ (HR.out.ext HX1.out)).mono ?_
  rintro r w2 ⟨rfl, hx2⟩
  have HX2 := Lib.hid (HX1.out.trans hx2)
  clear hx2
  go_wp2_with fail
  go_ret
  exact ⟨rfl, HX2.out⟩
/-- The text that mill.Text returns: the tree's, in one of three ways. -/
def wayT (m : Int) (s : List UInt8) : List UInt8 := if m = 0 then 40 :: (s ++ [41]) else if m = 1 then 32 :: (s ++ [32, 32]) else s
set_option maxRecDepth 100000 in
theorem text_any (B g : Nat) (w : World) (L : Value) (l : List Int) (a : Nat) (v : Value) (e : Ex) (ht : TapeAt B g w L l a) (hB : B ≤ w.heap.size) (hr : RNd w v (flat 0 e)) (hg : e.Good) (hs : e.size ≤ 200) (hd : e.depth ≤ 40) :
    Calls Tryz.prog 28 #[.pointer (some ⟨g, 0, none⟩), v] w fun r w' => r = .returned (str (wayT (nextV l a 4) (nodeT fmtI e))) ∧ TapeAt B g w' L l (nextA l a) ∧ KB B g w w' := by
  have HF := Lib.hid (format20_any w v e hr hg hs hd)
  have HT := Lib.hid ht
  have HNX := Lib.hid (fun W h => next_any B g W L l a 4 h (by decide) (by decide))
  have h4 := nextV_range (l := l) (a := a) (n := 4) (by decide)
  have hlen := nodeT_len fmtI fmtI_len e hg
  generalize nextV l a 4 = m at *
  generalize nodeT fmtI e = s at *
  have hsl : s.length ≤ 82000 := by omega
  have hadd1 : ∀ W : World, (binOp .add 9 (.string ⟨#[40]⟩) (str s)).run Tryz.prog W = .ok (str (40 :: s)) W := fun W => run_add_str [40] s (by simp; omega) W
  have hadd2 : ∀ W : World, (binOp .add 9 (str (40 :: s)) (.string ⟨#[41]⟩)).run Tryz.prog W = .ok (str (40 :: (s ++ [41]))) W := fun W => run_add_str (40 :: s) [41] (by simp; omega) W
  have hadd3 : ∀ W : World, (binOp .add 9 (.string ⟨#[32]⟩) (str s)).run Tryz.prog W = .ok (str (32 :: s)) W := fun W => run_add_str [32] s (by simp; omega) W
  have hadd4 : ∀ W : World, (binOp .add 9 (str (32 :: s)) (.string ⟨#[32, 32]⟩)).run Tryz.prog W = .ok (str (32 :: (s ++ [32, 32]))) W := fun W => run_add_str (32 :: s) [32, 32] (by simp; omega) W
  obtain ⟨A, c, rfl, _⟩ := hr
  clear ht hg hs hd hlen
  have hm : m = 0 ∨ m = 1 ∨ (m ≠ 0 ∧ m ≠ 1) := by omega
  rcases hm with rfl | rfl | ⟨n0, n1⟩
  · go_enter Tryz.func28, Tryz.ntmps28
    go_wp2_with fail
    refine HF.out.mono ?_
    rintro r w1 ⟨rfl, hx1⟩
    have HX1 := Lib.hid hx1
    clear hx1
    go_wp2_with fail
    refine (HNX.out _ (HT.out.below (Below.mono HX1.out hB))).mono ?_
    rintro r w2 ⟨rfl, ht2, hk2⟩
    have HE := Lib.hid (And.intro ht2 (((KB.refl B g w).ext HX1.out hB).trans (hk2 B)))
    clear ht2 hk2
    go_wp2_with fail
    go_ret
    exact ⟨rfl, HE.out.1, HE.out.2⟩
  · go_enter Tryz.func28, Tryz.ntmps28
    go_wp2_with fail
    refine HF.out.mono ?_
    rintro r w1 ⟨rfl, hx1⟩
    have HX1 := Lib.hid hx1
    clear hx1
    go_wp2_with fail
    refine (HNX.out _ (HT.out.below (Below.mono HX1.out hB))).mono ?_
    rintro r w2 ⟨rfl, ht2, hk2⟩
    have HE := Lib.hid (And.intro ht2 (((KB.refl B g w).ext HX1.out hB).trans (hk2 B)))
    clear ht2 hk2
    go_wp2_with fail
    go_ret
    exact ⟨rfl, HE.out.1, HE.out.2⟩
  · have e0 : (m == 0) = false := by rw [beq_eq_false_iff_ne]; exact n0
    have e1 : (m == 1) = false := by rw [beq_eq_false_iff_ne]; exact n1
    have HW : Hid (wayT m s = s) := Lib.hid (by unfold wayT; rw [if_neg n0, if_neg n1])
    clear n0 n1
    go_enter Tryz.func28, Tryz.ntmps28
    go_wp2_with fail
    refine HF.out.mono ?_
    rintro r w1 ⟨rfl, hx1⟩
    have HX1 := Lib.hid hx1
    clear hx1
    go_wp2_with fail
    refine (HNX.out _ (HT.out.below (Below.mono HX1.out hB))).mono ?_
    rintro r w2 ⟨rfl, ht2, hk2⟩
    have HE := Lib.hid (And.intro ht2 (((KB.refl B g w).ext HX1.out hB).trans (hk2 B)))
    clear ht2 hk2
    go_wp2_with fail
    go_ret
    exact ⟨by rw [HW.out]; rfl, HE.out.1, HE.out.2⟩
end Big
end Go.Proofs.YtgopljllknbelaaGreatDoor
/- strings.Cut, TrimLeft, Trim at the texts of decimals. -/
namespace Go.Proofs.YtgopljllknbelaaGreatDoor
namespace Big
open Go.RowKit
/-- The library's variable that strings.Index reads. -/
def MaxV (w : World) : Prop := ∃ m : Int, w.cell? ⟨0, 0, none⟩ = some (.int .i64 m)
theorem MaxV.ext {w w' : World} (h : MaxV w) (hx : Ext w w') : MaxV w' := by
  obtain ⟨m, h⟩ := h
  exact ⟨m, hx.keep h⟩
theorem maxV_of_shaped {w : World} (h : w.ShapedOpen Tryz.prog) : MaxV w := Tryz.laysM145.s1_3 w h
theorem cut_any (w : World) (l : List UInt8) (hl : l.length ≤ 1073741824) (hm : MaxV w) :
    Calls Tryz.prog 113 #[str l, .string ⟨#[46]⟩] w fun e w' => e = .returned (.tuple #[str (whole l), str (part l), .bool (hasDot l)]) ∧ Ext w w' := by
  obtain ⟨m, hm⟩ := hm
  have h := Any.strings_Cut { Tryz.laysM145 with } ⟨l.toArray⟩ ⟨#[46]⟩ m w (by rw [size_str]; omega) hm
  have e := cut_dot l
  have e1 : Lib.cut (⟨l.toArray⟩ : ByteArray).data.toList (⟨#[46]⟩ : ByteArray).data.toList = (whole l, part l, hasDot l) := e
  rw [e1] at h
  refine h.mono ?_
  rintro e w' ⟨rfl, n, rfl⟩
  exact ⟨rfl, (Ext.refl w).drewN n⟩
theorem trimZ_any (w : World) (l : List UInt8) :
    Calls Tryz.prog 114 #[str l, .string ⟨#[48]⟩] w fun e w' => e = .returned (str (l.dropWhile (· == 48))) ∧ w = w' := by
  refine (Tryz.strings_TrimLeft_one ⟨l.toArray⟩ 48 (by decide) w).mono ?_
  rintro e w' ⟨rfl, rfl⟩
  exact ⟨rfl, rfl⟩
theorem trimD_any (w : World) (l : List UInt8) (hl : l.length ≤ 1073741824) (h : l.all isDig = true) :
    Calls Tryz.prog 116 #[str l, .string ⟨#[48, 49, 50, 51, 52, 53, 54, 55, 56, 57]⟩] w fun e w' => e = .returned (str []) ∧ Ext w w' := by
  refine (Any.strings_Trim_laid Tryz.lays160 (by kernel_rfl) ⟨l.toArray⟩ ⟨#[48, 49, 50, 51, 52, 53, 54, 55, 56, 57]⟩ w (by rw [size_str]; omega) (by decide) (ascii_of_all (by decide))).mono ?_
  rintro e w' ⟨rfl, hb⟩
  have e1 : Lib.trimS (⟨l.toArray⟩ : ByteArray).data.toList (⟨#[48, 49, 50, 51, 52, 53, 54, 55, 56, 57]⟩ : ByteArray).data.toList = [] := trimS_all l h
  rw [e1]
  exact ⟨rfl, hb⟩
end Big
end Go.Proofs.YtgopljllknbelaaGreatDoor
/- nat.Bits, root.Gcd, root.Lowest. -/
namespace Go.Proofs.YtgopljllknbelaaGreatDoor
namespace Big
open Go.RowKit
/-- The number of binary digits. -/
def bitsN (n : Nat) : Nat := if n = 0 then 0 else n.log2 + 1
theorem bitsN_zero {n : Nat} : bitsN n = 0 ↔ n = 0 := by
  unfold bitsN
  split
  · simp [*]
  · simp [*]
theorem bitsN_eq {n b : Nat} (h1 : 2 ^ b ≤ n) (h2 : n < 2 ^ (b + 1)) : bitsN n = b + 1 := by
  have h0 : n ≠ 0 := by
    have : 0 < 2 ^ b := Nat.pow_pos (by omega)
    omega
  unfold bitsN
  rw [if_neg h0]
  have h3 := (Nat.le_log2 h0).2 h1
  have h4 := (Nat.log2_lt h0).2 h2
  omega
theorem bitsN_limbs {xs : List Nat} {n : Nat} (hok : Ok xs) (_hl : n + 1 ≤ xs.length) (hz : val (xs.drop (n + 1)) = 0) (ht : xs.getD n 0 ≠ 0) : 32 * n + Lib.bitLen (xs.getD n 0) = bitsN (val xs) := by
  have hx := hok.get n
  obtain ⟨b1, b2, b3⟩ := Lib.bitLenAux_bounds 64 (xs.getD n 0) (by omega) ht
  have h1 := val_split' xs (n + 1)
  rw [hz, Nat.mul_zero, Nat.add_zero, val_take'] at h1
  have h2 := val_take_lt hok n
  obtain ⟨c, hc⟩ : ∃ c, Lib.bitLenAux 64 (xs.getD n 0) = c + 1 := ⟨Lib.bitLenAux 64 (xs.getD n 0) - 1, by omega⟩
  unfold Lib.bitLen
  rw [hc] at b2 b3 ⊢
  rw [Nat.add_sub_cancel] at b2
  generalize xs.getD n 0 = y at *
  rw [h1]
  refine (bitsN_eq (b := 32 * n + c) ?_ ?_).symm
  · rw [Nat.pow_add, Nat.pow_mul]
    exact Nat.le_trans (Nat.mul_le_mul_left _ b2) (Nat.le_add_left _ _)
  · rw [Nat.add_assoc, Nat.pow_add, Nat.pow_mul, show (2 : Nat) ^ 32 = 4294967296 from rfl]
    have h3 := Nat.mul_le_mul_left (4294967296 ^ n) (show y + 1 ≤ 2 ^ (c + 1) from b3)
    rw [Nat.mul_add, Nat.mul_one] at h3
    omega
theorem bits_any (w : World) (v : Value) (xs : List Nat) (h : Arr w v xs) (hn : xs.length ≤ 134217728) :
    Calls Tryz.prog 167 #[v] w fun e w' => e = .returned (.int .i64 (bitsN (val xs) : Nat)) ∧ w = w' := by
  have HS := Lib.hid (size_any w v xs h)
  have hle := size_le xs
  have hzd := val_drop_size h.ok
  obtain ⟨hok, A, c, rfl, hc, hm, hcell⟩ := h.open
  rcases Nat.eq_zero_or_pos (size xs) with h0 | h0
  · have HZ := Lib.hid (bitsN_zero.2 (size_zero h0))
    rw [HZ.out]
    rw [h0] at HS
    clear hm hcell h0 hle hc
    go_enter Tryz.func167, Tryz.ntmps167
    go_wp2_with fail
    refine HS.out.mono ?_
    rintro e w' ⟨rfl, rfl⟩
    go_wp2_with fail
    go_ret
    exact ⟨rfl, rfl⟩
  · obtain ⟨n, hn1⟩ : ∃ n, size xs = n + 1 := ⟨size xs - 1, by omega⟩
    rw [hn1] at HS hle hzd
    have ht : xs.getD n 0 ≠ 0 := by
      intro e
      have h1 := val_split' xs n
      rw [val_drop', e, hzd] at h1
      simp only [Nat.mul_zero, Nat.add_zero] at h1
      have h2 := length_limbs_le (n := val xs) (k := n) (by rw [h1]; exact val_take_lt hok n)
      rw [← size_eq hok] at h2
      omega
    have HB := Lib.hid (bitsN_limbs hok hle hzd ht)
    obtain ⟨b, o, rfl, hb, hcell⟩ := hcell (by omega)
    have hx := hcell n (by omega)
    have hxm := hok.get n
    clear hcell h0 hzd hn1 hc ht
    obtain ⟨y, hy⟩ : ∃ y, xs.getD n 0 = y := ⟨_, rfl⟩
    rw [hy] at hx hxm HB
    clear hy
    have HL := Lib.hid (Tryz.bits_Len32 (y : Int) w (by omega) (by omega))
    have hbl := Any.bitLen_le32 (y : Int) (by omega) (by omega)
    rw [Int.toNat_natCast] at HL hbl
    unfold maxLen at hm
    simp only [d32] at hx
    have hn0 : (((n : Int) + 1) == 0) = false := by rw [beq_eq_false_iff_ne]; omega
    generalize Lib.bitLen y = bl at *
    go_enter Tryz.func167, Tryz.ntmps167
    go_wp2_with fail
    refine HS.out.mono ?_
    rintro e w' ⟨rfl, rfl⟩
    go_wp2_with fail
    refine HL.out.mono ?_
    rintro e w' ⟨rfl, rfl⟩
    go_wp2_with fail
    go_ret
    exact ⟨congrArg (fun z => Ending.returned (.int .i64 z)) (by rw [← HB.out]; simp), rfl⟩

/-- A list of digits of the call's own, that stands for n. -/
theorem gcd_any (w : World) (v u : Value) (xs ys : List Nat) (h : Arr w v xs) (h' : Arr w u ys) (hn : xs.length ≤ 134217728) (hn' : ys.length ≤ 134217728) :
    Calls Tryz.prog 168 #[v, u] w fun e w' => ∃ v', e = .returned v' ∧ Own w.heap.size w' v' (limbs (Nat.gcd (val xs) (val ys))) ∧ Ext w w' := by
  have HA := Lib.hid (trim_any w v xs h (by omega))
  have HB := Lib.hid (fun W hx => trim_any W u ys (h'.ext hx) (by omega))
  have hla : (limbs (val xs)).length ≤ 134217728 := Nat.le_trans (length_limbs_val h.ok) hn
  have hlb : (limbs (val ys)).length ≤ 134217728 := Nat.le_trans (length_limbs_val h'.ok) hn'
  clear h h' hn hn'
  generalize val xs = X at *
  generalize val ys = Y at *
  go_enter Tryz.func168, Tryz.ntmps168
  go_wp2_with fail
  refine HA.out.mono ?_
  rintro e w1 ⟨v1, rfl, ho1, hx1⟩
  have HX1 := Lib.hid hx1
  have HO1 := Lib.hid ho1
  obtain ⟨n1, A1, c1, rfl⟩ := ho1.shape
  clear ho1 hx1
  go_wp2_with fail
  refine (HB.out _ HX1.out).mono ?_
  rintro e w2 ⟨v2, rfl, ho2, hx2⟩
  have HO2 := Lib.hid (ho2.mono HX1.out.size)
  have HO1' := Lib.hid (HO1.out.ext hx2)
  have HX2 := Lib.hid (HX1.out.trans hx2)
  obtain ⟨n2, A2, c2, rfl⟩ := ho2.shape
  clear ho2 hx2
  go_wp2_with fail
  go_loopg [0, 1] Y (fun gh s0 s1 wr => ∃ (g x : Nat) (na : Nat) (Aa : Option Addr) (ca nb : Nat) (Ab : Option Addr) (cb : Nat), gh = g ∧ s0 = .slice Aa na ca ∧ s1 = .slice Ab nb cb ∧ Own w.heap.size wr s0 (limbs x) ∧ Own w.heap.size wr s1 (limbs g) ∧ Nat.gcd x g = Nat.gcd X Y ∧ (limbs x).length ≤ 134217728 ∧ (limbs g).length ≤ 134217728 ∧ Ext w wr)
  case atStart => exact ⟨Y, X, n1, A1, c1, n2, A2, c2, rfl, rfl, rfl, HO1'.out, HO2.out, rfl, hla, hlb, HX2.out⟩
  case round =>
    obtain ⟨g, x, na, Aa, ca, nb, Ab, cb, hgg, rfl, rfl, hoa, hob, hg, hlx, hlg, hext⟩ := hrel
    have HGG := Lib.hid hgg
    clear hgg
    have HG := Lib.hid hg
    have HXT := Lib.hid hext
    have HOA := Lib.hid hoa
    have HOB := Lib.hid hob
    have hnb := hob.len
    have hna := hoa.len
    clear hg hext HA HB HO1 HX1 HO1' HO2 HX2
    rcases Nat.eq_zero_or_pos g with h0 | h0
    · subst h0
      rw [limbs_zero, List.length_nil] at hnb
      subst hnb
      have HV : Hid (Own w.heap.size wr (.slice Aa na ca) (limbs (Nat.gcd X Y))) := Lib.hid (by
        have h1 := HG.out
        rw [Nat.gcd_zero_right] at h1
        rw [← h1]
        exact hoa)
      clear hoa hob hna
      go_wp2_with fail
      go_ret
      exact ⟨_, rfl, HV.out, HXT.out⟩
    · have hl1 : 0 < nb := by
        rw [hnb]
        exact List.length_pos_iff.2 (fun e => by rw [limbs_eq_nil] at e; omega)
      have HD := Lib.hid (qdivmod_any wr _ _ _ _ hoa.arr hob.arr hlx hlg (by rw [val_limbs]; omega))
      rw [val_limbs, val_limbs] at HD
      have hmod := Nat.mod_lt x h0
      have hlm := Nat.le_trans (limbs_mono (Nat.le_of_lt hmod)) hlg
      have HG2 := Lib.hid (show Nat.gcd g (x % g) = Nat.gcd X Y by rw [← gcd_step, HG.out])
      have hb0 : ((nb : Int) != 0) = true := by rw [bne_iff_ne]; omega
      have hb1 : ((nb : Int) == 0) = false := by rw [beq_eq_false_iff_ne]; omega
      clear hoa hob hna hnb
      go_wp2_with fail
      refine HD.out.mono ?_
      rintro e w3 ⟨v3, u3, rfl, hq3, hr3, hx3⟩
      have HB3 := Lib.hid (HOB.out.ext hx3)
      have HR3 := Lib.hid (hr3.mono HXT.out.size)
      have HX3 := Lib.hid (HXT.out.trans hx3)
      obtain ⟨n3, A3, c3, rfl⟩ := hq3.shape
      obtain ⟨n4, A4, c4, rfl⟩ := hr3.shape
      clear hq3 hr3 hx3
      go_wp2_with fail
      go_roundg (x % g)
      case rel => exact ⟨x % g, g, nb, Ab, cb, n4, A4, c4, rfl, rfl, rfl, HB3.out, HR3.out, HG2.out, hlg, hlm, HX3.out⟩
      case measure => rw [HGG.out]; exact hmod
end Big
end Go.Proofs.YtgopljllknbelaaGreatDoor
namespace Go.Proofs.YtgopljllknbelaaGreatDoor
namespace Big
open Go.RowKit

/-- What product.Small holds after k digits. -/
def SmallAt (w0 wr : World) (xs : List Nat) (m c k cy : Nat) : Prop :=
  ∃ ys : List Nat, ys.length = k ∧ Ok ys ∧ val ys + 4294967296 ^ k * cy = val (xs.take k) * m + c ∧
    Blk wr w0.heap.size 126 (cells (ys ++ List.replicate (xs.length + 1 - k) 0)) ∧ Ext w0 wr

theorem SmallAt.step {w0 wr : World} {xs ys : List Nat} {m c k q x : Nat} (hk : k < xs.length) (hl : ys.length = k) (hok : Ok ys)
    (hv : val (ys ++ [(q + x * m) % 4294967296]) + 4294967296 ^ (k + 1) * ((q + x * m) / 4294967296) = val (xs.take (k + 1)) * m + c)
    (hb : Blk wr w0.heap.size 126 (cells (ys ++ List.replicate (xs.length + 1 - k) 0))) (he : Ext w0 wr) :
    SmallAt w0 (wr.setCell ⟨w0.heap.size, k, none⟩ (d32 ((q + x * m) % 4294967296))) xs m c (k + 1) ((q + x * m) / 4294967296) := by
  refine ⟨ys ++ [(q + x * m) % 4294967296], by simp [hl], hok.snoc (Nat.mod_lt _ (by omega)), hv, ?_, he.setCell (Nat.le_refl _) _⟩
  have h1 := hb.set_ k (d32 ((q + x * m) % 4294967296))
  rw [set_cells, show xs.length + 1 - k = (xs.length - k) + 1 by omega] at h1
  have h2 := set_front ys (xs.length - k) ((q + x * m) % 4294967296)
  rw [hl] at h2
  rw [h2] at h1
  rw [show xs.length + 1 - (k + 1) = xs.length - k by omega]
  exact h1

theorem psmall_any (w : World) (v : Value) (xs : List Nat) (m c : Nat) (h : Arr w v xs) (hn : xs.length ≤ 536870912) (hm : m < 4294967296) (hc : c < 4294967296) :
    Calls Tryz.prog 145 #[v, .int .u32 (m : Int), .int .u32 (c : Int)] w fun e w' => ∃ v', e = .returned v' ∧ Own w.heap.size w' v' (limbs (val xs * m + c)) ∧ Ext w w' := by
  have HA := Lib.hid h
  obtain ⟨hok, A, cap, rfl, hcap, hmx, hcell⟩ := h.open
  have HM := Lib.hid hmx
  have HC := Lib.hid hcell
  have hmk := run_make32_succ xs.length (by omega)
  have HMK := Lib.hid hmk
  clear h hcell hmx hcap
  go_enter Tryz.func145, Tryz.ntmps145
  go_wp2_with fail
  clear hmk
  go_loopw [8, 19] (fun cy i wr => ∃ k q : Nat, k ≤ xs.length ∧ q < 4294967296 ∧ i = .int .i64 k ∧ cy = .int .u64 q ∧ SmallAt w wr xs m c k q) (fun _ i _ => xs.length - (intOf i).toNat)
  case atStart => exact ⟨0, c, Nat.zero_le _, hc, rfl, rfl, [], rfl, ok_nil, by simp [val], Blk.new _ _ _, (Ext.refl w).alloc _⟩
  case round =>
    obtain ⟨k, q, hk, hq, rfl, rfl, ys, hl, hok', hv, hblk, hext⟩ := hrel
    have HV := Lib.hid hv; clear hv
    have HB := Lib.hid hblk; clear hblk
    have HL := Lib.hid hl; clear hl
    by_cases hlt : k < xs.length
    · obtain ⟨b, o, rfl, hb, hcell⟩ := HC.out (by omega)
      have hx := (hext.cell hb).trans (hcell k hlt)
      have hst := HB.out.cell k
      have hfz := HB.out.frozen k
      rw [get_cells _ _ (by simp [HL.out]; omega)] at hst
      clear hcell
      have hxm := hok.get k
      have HS := Lib.hid (small_step xs ys k m c q hlt HL.out HV.out)
      have hp := prod_le hxm hm
      obtain ⟨x, hxe⟩ : ∃ x, xs.getD k 0 = x := ⟨_, rfl⟩
      rw [hxe] at hx hxm hp HS
      clear hxe
      have hp' : (x : Int) * (m : Int) ≤ 18446744065119617025 := by rw [← Int.natCast_mul]; omega
      have hp0 : 0 ≤ (x : Int) * (m : Int) := by rw [← Int.natCast_mul]; omega
      simp only [d32] at hx hst
      go_wp2
      go_round
      case rel =>
        refine ⟨k + 1, (q + x * m) / 4294967296, by omega, ?_, by go_num, by go_num, ?_⟩
        · exact Nat.div_lt_of_lt_mul (by omega)
        · exact SmallAt.step hlt HL.out hok' HS.out HB.out hext
      case measure => simp [intOf]; omega
    · obtain rfl : k = xs.length := by omega
      have hst := HB.out.cell xs.length
      have hfz := HB.out.frozen xs.length
      rw [get_cells _ _ (by simp [HL.out])] at hst
      have hlast : Own w.heap.size (wr.setCell ⟨w.heap.size, xs.length, none⟩ (d32 q)) (.slice (some ⟨w.heap.size, 0, none⟩) (xs.length + 1) (xs.length + 1)) (ys ++ [q]) := by
        have h1 := HB.out.set_ xs.length (d32 q)
        have h2 := set_front ys 0 q
        rw [HL.out] at h2
        rw [set_cells, show xs.length + 1 - xs.length = 0 + 1 by omega, h2] at h1
        have h3 := Own.block (B := w.heap.size) (hok'.snoc hq) (by simpa using h1) (Nat.le_refl _) (by simp [HL.out]; omega)
        simpa [HL.out] using h3
      have hval : val (ys ++ [q]) = val xs * m + c := by
        rw [val_snoc, HL.out, HV.out, List.take_of_length_le (Nat.le_refl _)]
      have HT := Lib.hid (trim_any _ _ _ hlast.arr (by simp [HL.out]; omega))
      rw [hval] at HT
      have HVL := Lib.hid hval
      have HO := Lib.hid hlast
      clear hval hlast
      simp only [d32] at hst
      go_wp2_with fail
      refine HT.out.mono ?_
      rintro e w' ⟨v', rfl, ho, hx⟩
      go_wp2_with fail
      go_ret
      have he : Ext w (wr.setCell ⟨w.heap.size, xs.length, none⟩ (d32 q)) := hext.setCell (Nat.le_refl _) _
      exact ⟨_, rfl, ho.mono he.size, he.trans hx⟩
end Big
end Go.Proofs.YtgopljllknbelaaGreatDoor
