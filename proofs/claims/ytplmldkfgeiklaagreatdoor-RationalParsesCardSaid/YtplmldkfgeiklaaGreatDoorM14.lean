import Derived.Test.YtplmldkfgeiklaaGreatDoorM10
import Derived.Test.YtplmldkfgeiklaaGreatDoorM13
import Derived.Test.YtplmldkfgeiklaaGreatDoorM4
import Derived.Laws.BytesArg
import Derived.Lib.Strings
import Derived.WalkSpells
import Derived.Laws.Entries
/- root.newton at order 2, root.Sqrt, root.Square, rational.Sqrt. Printed by a program. -/
namespace Go.Proofs.YtplmldkfgeiklaaGreatDoor
namespace Big
open Go.RowKit
theorem bitsN_lt (n : Nat) : n < 2 ^ bitsN n := by
  unfold bitsN
  split
  · simp [*]
  · exact Nat.lt_log2_self
theorem bitsN_le {n k : Nat} (h : n < 2 ^ k) : bitsN n ≤ k := by
  unfold bitsN
  split
  · omega
  · rename_i h0
    have := (Nat.log2_lt h0).2 h
    omega
theorem bitsN_limbs_le {n L : Nat} (h : (limbs n).length ≤ L) : bitsN n ≤ 32 * L := by
  refine bitsN_le ?_
  have h1 := val_lt (ok_limbs n)
  rw [val_limbs] at h1
  have h2 := pow_mono h
  rw [Nat.pow_mul]
  exact Nat.lt_of_lt_of_le h1 h2
theorem limbs_pow2_le {b L : Nat} (h : b ≤ 32 * L) : (limbs (2 ^ b)).length ≤ L + 1 := by
  refine length_limbs_le ?_
  have h1 : 2 ^ b ≤ 2 ^ (32 * L) := Nat.pow_le_pow_right (by omega) h
  rw [Nat.pow_mul, show (2 : Nat) ^ 32 = 4294967296 from rfl] at h1
  rw [Nat.pow_succ]
  have : 0 < 4294967296 ^ L := pow_pos' L
  omega
set_option maxHeartbeats 4000000 in
set_option maxRecDepth 100000 in
theorem newton2_any (w : World) (v0 : Value) (xs : List Nat) (h0 : Arr w v0 xs) (hl : xs.length ≤ 10000) (hpos : 0 < val xs) :
    Calls Tryz.prog 160 #[v0, .int .i64 2] w fun e w' => ∃ v' r, e = .returned v' ∧ IsSq (val xs) r ∧ Own w.heap.size w' v' (limbs r) ∧ Ext w w' := by
  have H0 := Lib.hid h0
  have hV : (limbs (val xs)).length ≤ 10000 := Nat.le_trans (length_limbs_val h0.ok) hl
  have HOF := Lib.hid (fun W => of_any W 1 (by decide))
  have HBT := Lib.hid (fun W hx => bits_any W v0 xs (h0.ext hx) (by omega))
  have hB := bitsN_limbs_le hV
  have hlt := bitsN_lt (val xs)
  have HSQ0 := Lib.hid (show val xs < 2 ^ ((bitsN (val xs) + 1) / 2) * 2 ^ ((bitsN (val xs) + 1) / 2) from Nat.lt_of_lt_of_le hlt (half_pow' _))
  obtain ⟨l0, A0, c0, rfl⟩ := h0.shape
  clear h0 hlt
  have HLL := Lib.hid hl
  have HPOS := Lib.hid hpos
  have HVL := Lib.hid hV
  clear hl hpos hV
  generalize bitsN (val xs) = B at *
  obtain ⟨S, hS⟩ : ∃ S, S = (B + 1) / 2 := ⟨_, rfl⟩
  have hq1 : Int.tdiv ((B : Int) + 2 - 1) 2 = (S : Int) := by rw [Int.tdiv_eq_ediv_of_nonneg (by omega)]; omega
  have hq2 : ((B : Int) + 2 - 1) / 2 = (S : Int) := by omega
  have hq3 : Int.tdiv ((B : Int) + 1) 2 = (S : Int) := by rw [Int.tdiv_eq_ediv_of_nonneg (by omega)]; omega
  have hq4 : ((B : Int) + 1) / 2 = (S : Int) := by omega
  have hBi : (B : Int) ≤ 320000 := by omega
  have hB0 : (0 : Int) ≤ (B : Int) := by omega
  rw [← hS] at HSQ0
  have HSH := Lib.hid (fun W m a => shl_any W m (limbs 1) S a (by rw [limbs_one]; simp) (by omega))
  rw [val_limbs, Nat.one_mul] at HSH
  have HSL : Hid ((limbs (2 ^ S)).length ≤ 10001) := Lib.hid (limbs_pow2_le (by omega))
  clear hS hB
  go_enter Tryz.func160, Tryz.ntmps160
  go_wp2_with fail
  refine (HOF.out _).mono ?_
  rintro e w1 ⟨r0, rfl, hi0, hx0⟩
  have R0 := Lib.hid hi0
  have HX1 := Lib.hid hx0
  obtain ⟨g0, G0, j0, rfl⟩ := hi0.shape
  clear hi0 hx0
  go_wp2_with fail
  refine (HBT.out _ HX1.out).mono ?_
  rintro e w2 ⟨rfl, rfl⟩
  go_wp2_with fail
  refine (HSH.out _ _ R0.out.arr).mono ?_
  rintro e w3 ⟨r1, rfl, hi1, hx1⟩
  have R1 := Lib.hid (hi1.mono HX1.out.size)
  have HX3 := Lib.hid (HX1.out.trans hx1)
  obtain ⟨g1, G1, j1, rfl⟩ := hi1.shape
  clear hi1 hx1 hq1 hq2 hq3 hq4 hBi hB0 HOF HBT HSH
  go_wp2_with fail
  go_loopg [5] (2 ^ S) (fun gh s5 wr => ∃ (x g5 c5 : Nat) (A5 : Option Addr), gh = x ∧ s5 = .slice A5 g5 c5 ∧ 0 < x ∧ Own w.heap.size wr s5 (limbs x) ∧ (∀ s, s * s ≤ val xs → s ≤ x) ∧ (limbs x).length ≤ 10001 ∧ Ext w wr)
  case atStart => exact ⟨2 ^ S, g1, j1, G1, rfl, rfl, Nat.pow_pos (by omega), R1.out, newton_start HSQ0.out, HSL.out, HX3.out⟩
  case round =>
    obtain ⟨x, g5, c5, A5, hgg, rfl, hx0, ho, hlow, hxl, hext⟩ := hrel
    have HGG := Lib.hid hgg
    have HO := Lib.hid ho
    have HX := Lib.hid hext
    have HLOW := Lib.hid hlow
    have HXL := Lib.hid hxl
    have HX0 := Lib.hid hx0
    have HP := Lib.hid (fun W m a => ppow_any W m (limbs x) 1 a (by omega) (by omega))
    rw [val_limbs, Nat.pow_one] at HP
    have HD := Lib.hid (fun W m a b => qdivmod_any W (.slice A0 l0 c0) m xs (limbs x) a b (by have := HLL.out; omega) (by omega) (by rw [val_limbs]; omega))
    unfold DivPost at HD
    rw [val_limbs] at HD
    have HSM := Lib.hid (fun W m a => psmall_any W m (limbs x) 1 0 a (by omega) (by decide) (by decide))
    rw [val_limbs, Nat.mul_one, Nat.add_zero] at HSM
    have hql : (limbs (val xs / x)).length ≤ 10000 := Nat.le_trans (limbs_mono (Nat.div_le_self _ _)) HVL.out
    have HA := Lib.hid (fun W m m' a b => add_any W m m' (limbs x) (limbs (val xs / x)) a b (by omega) (by omega))
    rw [val_limbs, val_limbs] at HA
    have hsl : (limbs (x + val xs / x)).length ≤ 20002 := by have := length_limbs_sum hxl hql; omega
    have HQ := Lib.hid (fun W m a => qsmall_any W m (limbs (x + val xs / x)) 2 a (by omega) (by decide) (by decide))
    rw [val_limbs] at HQ
    have hyl : (limbs ((x + val xs / x) / 2)).length ≤ 20002 := Nat.le_trans (limbs_mono (Nat.div_le_self _ _)) hsl
    have HC := Lib.hid (fun W m m' a b => cmp_any W m m' (limbs ((x + val xs / x) / 2)) (limbs x) a b (by omega) (by omega))
    rw [val_limbs, val_limbs] at HC
    have hstop := @newton_stop (val xs) x hx0
    have hnl := fun s => @newton_low (val xs) x s hx0
    clear hgg ho hext hlow hx0 hql hsl hyl hxl
    generalize (x + val xs / x) / 2 = y at *
    have hcn := @cmpI_neg y x
    generalize cmpI y x = cc at *
    have HK := Lib.hid (And.intro hstop (And.intro hnl hcn))
    have hcc : cc < 0 ∨ 0 ≤ cc := by omega
    clear hstop hnl hcn
    go_wp2_with fail
    refine (HP.out _ _ HO.out.arr).mono ?_
    rintro e w4 ⟨r4, rfl, hi4, hx4⟩
    have R4 := Lib.hid hi4
    have HX4 := Lib.hid (HX.out.trans hx4)
    have HO4 := Lib.hid (HO.out.ext hx4)
    obtain ⟨g4, G4, j4, rfl⟩ := hi4.shape
    clear hi4 hx4
    go_wp2_with fail
    refine (HD.out _ _ (H0.out.ext HX4.out) R4.out.arr).mono ?_
    rintro e w5 ⟨r5, r6, rfl, hi5, hi6, hx5⟩
    have R5 := Lib.hid hi5
    have HX5 := Lib.hid (HX4.out.trans hx5)
    have HO5 := Lib.hid (HO4.out.ext hx5)
    obtain ⟨g6, G6, j6, rfl⟩ := hi5.shape
    obtain ⟨g7, G7, j7, rfl⟩ := hi6.shape
    clear hi5 hi6 hx5
    go_wp2_with fail
    refine (HSM.out _ _ HO5.out.arr).mono ?_
    rintro e w6 ⟨r8, rfl, hi8, hx6⟩
    have R8 := Lib.hid hi8
    have HX6 := Lib.hid (HX5.out.trans hx6)
    have HO6 := Lib.hid (HO5.out.ext hx6)
    have R56 := Lib.hid (R5.out.ext hx6)
    obtain ⟨g8, G8, j8, rfl⟩ := hi8.shape
    clear hi8 hx6
    go_wp2_with fail
    refine (HA.out _ _ _ R8.out.arr R56.out.arr).mono ?_
    rintro e w7 ⟨r9, rfl, hi9, hx7⟩
    have R9 := Lib.hid hi9
    have HX7 := Lib.hid (HX6.out.trans hx7)
    have HO7 := Lib.hid (HO6.out.ext hx7)
    obtain ⟨g9, G9, j9, rfl⟩ := hi9.shape
    clear hi9 hx7
    go_wp2_with fail
    refine (HQ.out _ _ R9.out.arr).mono ?_
    rintro e w8 ⟨ra, rfl, hia, hx8⟩
    have HX8 := Lib.hid (HX7.out.trans hx8)
    have HO8 := Lib.hid (HO7.out.ext hx8)
    have RA := Lib.hid (hia.mono HX7.out.size)
    obtain ⟨ga, GA, ja, rfl⟩ := hia.shape
    clear hia hx8
    rcases hcc with hc1 | hc1
    · have hc2 : ¬ (0 : Int) ≤ cc := by omega
      go_wp2_with fail
      refine (HC.out _ _ _ RA.out.arr HO8.out.arr).mono ?_
      rintro e w9 ⟨rfl, hx9⟩
      have HX9 := Lib.hid (HX8.out.trans hx9)
      have RA9 := Lib.hid (RA.out.ext hx9)
      clear hx9
      go_wp2_with fail
      have hyx : y < x := HK.out.2.2.1 hc1
      have hy0 : 0 < y := by
        have h1 := HK.out.2.1 1 (by have := HPOS.out; omega)
        omega
      go_roundg y
      case rel => exact ⟨y, ga, ja, GA, rfl, rfl, hy0, RA9.out, HK.out.2.1, Nat.le_trans (limbs_mono (Nat.le_of_lt hyx)) HXL.out, HX9.out⟩
      case measure => rw [HGG.out]; exact hyx
    · have hc2 : (0 : Int) ≤ cc := hc1
      go_wp2_with fail
      refine (HC.out _ _ _ RA.out.arr HO8.out.arr).mono ?_
      rintro e w9 ⟨rfl, hx9⟩
      have HX9 := Lib.hid (HX8.out.trans hx9)
      have HO9 := Lib.hid (HO8.out.ext hx9)
      clear hx9
      go_wp2_with fail
      go_ret
      have hxy : x ≤ y := by
        rcases Nat.lt_or_ge y x with h | h
        · have := HK.out.2.2.2 h; omega
        · exact h
      exact ⟨_, x, rfl, newton_end HLOW.out (HK.out.1 hxy), HO9.out, HX9.out⟩
set_option maxRecDepth 100000 in
theorem psqrt_zero (w : World) (v0 : Value) (xs : List Nat) (h0 : Arr w v0 xs) (n0 : xs.length ≤ 10000) (hz : val xs = 0) :
    Calls Tryz.prog 134 #[v0] w fun e w' => e = .returned (.tuple #[.slice none 0 0, .slice none 0 0]) ∧ Ext w w' := by
  have H0 := Lib.hid h0
  have HTR := Lib.hid (fun W m a => trim_any W m xs a (by omega))
  have hz0 : (limbs (val xs)).length = 0 := by rw [hz]; rfl
  obtain ⟨l0, A0, c0, rfl⟩ := h0.shape
  clear h0 hz
  go_enter Tryz.func134, Tryz.ntmps134
  go_wp2_with fail
  have hxo := (Ext.refl w)
  have hszo : w.heap.size = w.heap.size := by simp
  have HX := Lib.hid (Ext.refl w)
  clear hxo hszo 
  refine (HTR.out _ _ (H0.out.ext HX.out)).mono ?_
  rintro e w1 ⟨r0, rfl, hi0, hx0⟩
  have HX := Lib.hid (HX.out.trans hx0)
  have HZ0 := Lib.hid hx0.size
  have R0 := Lib.hid hi0
  obtain ⟨g0, G0, j0, rfl⟩ := hi0.shape
  clear hx0 hi0
  have hgl := R0.out.arr.len
  have hgz : g0 = 0 := hgl.trans hz0
  subst hgz
  clear hgl hz0
  go_wp2_with fail
  go_ret2
  exact ⟨rfl, HX.out⟩
set_option maxRecDepth 100000 in
theorem psqrt_pos (w : World) (v0 : Value) (xs : List Nat) (h0 : Arr w v0 xs) (n0 : xs.length ≤ 10000) (hz : 0 < val xs) :
    Calls Tryz.prog 134 #[v0] w fun e w' => ∃ v' u' r, e = .returned (.tuple #[v', u']) ∧ IsSq (val xs) r ∧ Own w.heap.size w' v' (limbs r) ∧ Own w.heap.size w' u' (limbs (val xs - r * r)) ∧ Ext w w' := by
  have H0 := Lib.hid h0
  have HTR := Lib.hid (fun W m a => trim_any W m xs a (by omega))
  have hV : (limbs (val xs)).length ≤ 10000 := Nat.le_trans (length_limbs_val h0.ok) n0
  have HNW := Lib.hid (fun W m a => newton2_any W m (limbs (val xs)) a hV (by rw [val_limbs]; omega))
  rw [val_limbs] at HNW
  have HSU := Lib.hid (fun W m m' (r : Nat) a b (hr : (limbs (r * r)).length ≤ 536870912) (hle : r * r ≤ val xs) => nsub_ge W m m' (limbs (val xs)) (limbs (r * r)) a b (by omega) hr (by rw [val_limbs, val_limbs]; exact hle))
  have HSQ := Lib.hid (fun W m r a hr => square_any W m (limbs r) a hr)
  have hl1 : 0 < (limbs (val xs)).length := by rw [List.length_pos_iff]; intro e; rw [limbs_eq_nil] at e; omega
  have HVL := Lib.hid hV
  obtain ⟨l0, A0, c0, rfl⟩ := h0.shape
  clear h0 hz hV n0
  go_enter Tryz.func134, Tryz.ntmps134
  go_wp2_with fail
  have hxo := (Ext.refl w)
  have hszo : w.heap.size = w.heap.size := by simp
  have HX := Lib.hid (Ext.refl w)
  clear hxo hszo 
  refine (HTR.out _ _ (H0.out.ext HX.out)).mono ?_
  rintro e w1 ⟨r0, rfl, hi0, hx0⟩
  have HX := Lib.hid (HX.out.trans hx0)
  have HZ0 := Lib.hid hx0.size
  have R0 := Lib.hid hi0
  obtain ⟨g0, G0, j0, rfl⟩ := hi0.shape
  clear hx0 hi0
  have hgl := R0.out.arr.len
  have hg1 : 0 < g0 := by omega
  have hg2 : ((g0 : Int) == 0) = false := by rw [beq_eq_false_iff_ne]; omega
  clear hgl hl1 hg1
  go_wp2_with fail
  refine (HNW.out _ _ R0.out.arr).mono ?_
  rintro e w2 ⟨r1, r, rfl, hsq, hi1, hx1⟩
  have HX2 := Lib.hid (HX.out.trans hx1)
  have R1 := Lib.hid (hi1.mono HX.out.size)
  have R02 := Lib.hid (R0.out.ext hx1)
  have hrl : (limbs r).length ≤ 10000 := Nat.le_trans (limbs_mono hsq.le) HVL.out
  have hrr : (limbs (r * r)).length ≤ 10000 := Nat.le_trans (limbs_mono hsq.1) HVL.out
  have HQ := Lib.hid (fun W m a => HSQ.out W m r a (by omega))
  rw [val_limbs] at HQ
  have HU := Lib.hid (fun W m m' a b => HSU.out W m m' r a b (by omega) hsq.1)
  rw [val_limbs, val_limbs] at HU
  have HS := Lib.hid hsq
  obtain ⟨g1, G1, j1, rfl⟩ := hi1.shape
  clear hi1 hx1 hsq hrl hrr
  go_wp2_with fail
  refine (HQ.out _ _ R1.out.arr).mono ?_
  rintro e w3 ⟨r2, rfl, hi2, hx2⟩
  have HX3 := Lib.hid (HX2.out.trans hx2)
  have R13 := Lib.hid (R1.out.ext hx2)
  have R03 := Lib.hid (R02.out.ext hx2)
  have R2 := Lib.hid hi2
  obtain ⟨g2, G2, j2, rfl⟩ := hi2.shape
  clear hi2 hx2
  go_wp2_with fail
  refine (HU.out _ _ _ R03.out.arr R2.out.arr).mono ?_
  rintro e w4 ⟨r3, rfl, hi3, hx3⟩
  have HX4 := Lib.hid (HX3.out.trans hx3)
  have R14 := Lib.hid (R13.out.ext hx3)
  have R3 := Lib.hid (hi3.mono HX3.out.size)
  obtain ⟨g3, G3, j3, rfl⟩ := hi3.shape
  clear hi3 hx3
  go_wp2_with fail
  go_ret2
  exact ⟨_, _, r, rfl, HS.out, R14.out, R3.out, HX4.out⟩
/-- What root.Square returns: ok is whether the number is a square, and then the root is returned. -/
def SqPost (V : Nat) (w : World) (e : Ending) (w' : World) : Prop :=
  ∃ v' r, IsSq V r ∧ e = .returned (.tuple #[v', .bool (decide (V = r * r))]) ∧ (V = r * r → Own w.heap.size w' v' (limbs r)) ∧ (∃ n A c, v' = .slice A n c) ∧ Ext w w'
set_option maxRecDepth 100000 in
theorem psquare_any (w : World) (v0 : Value) (xs : List Nat) (h0 : Arr w v0 xs) (n0 : xs.length ≤ 10000) : Calls Tryz.prog 81 #[v0] w (SqPost (val xs) w) := by
  rcases Nat.eq_zero_or_pos (val xs) with hz | hz
  · have HS := Lib.hid (psqrt_zero w v0 xs h0 n0 hz)
    have HZ := Lib.hid hz
    obtain ⟨l0, A0, c0, rfl⟩ := h0.shape
    clear h0 hz
    go_enter Tryz.func81, Tryz.ntmps81
    go_wp2_with fail
    refine HS.out.mono ?_
    rintro e w1 ⟨rfl, hx⟩
    go_wp2_with fail
    go_ret2
    exact ⟨_, 0, by rw [HZ.out]; exact IsSq.zero, by rw [HZ.out]; rfl, fun _ => Own.none_ _ _, ⟨0, none, 0, rfl⟩, hx⟩
  · have HS := Lib.hid (psqrt_pos w v0 xs h0 n0 hz)
    obtain ⟨l0, A0, c0, rfl⟩ := h0.shape
    clear h0 hz
    go_enter Tryz.func81, Tryz.ntmps81
    go_wp2_with fail
    refine HS.out.mono ?_
    rintro e w1 ⟨v', u', r, rfl, hsq, hi, hi', hx⟩
    have HSQ := Lib.hid hsq
    have HI := Lib.hid hi
    have HX := Lib.hid hx
    have hlen := hi'.arr
    obtain ⟨g1, G1, j1, rfl⟩ := hi.shape
    obtain ⟨g2, G2, j2, rfl⟩ := hi'.shape
    have hl := hi'.arr.len
    by_cases hV : val xs = r * r
    · have hd : decide (val xs = r * r) = true := decide_eq_true hV
      have HD := Lib.hid hd
      rw [hV, Nat.sub_self, limbs_zero, List.length_nil] at hl
      subst hl
      clear hlen hi hi' hx hsq hV hd
      go_wp2_with fail
      go_ret2
      exact ⟨.slice G1 g1 j1, r, HSQ.out, by rw [HD.out]; rfl, fun _ => HI.out, ⟨_, _, _, rfl⟩, HX.out⟩
    · have HD := Lib.hid (decide_eq_false hV)
      have hp : 0 < g2 := by
        rw [hl, List.length_pos_iff]
        intro e
        rw [limbs_eq_nil] at e
        exact hV (hsq.rest.1 e)
      have hne : ((g2 : Int) != 0) = true := by rw [bne_iff_ne]; omega
      have HV := Lib.hid hV
      clear hlen hi hi' hx hsq hV hl hp
      go_wp2_with fail
      go_ret2
      exact ⟨.slice none 0 0, r, HSQ.out, by rw [HD.out]; rfl, fun e => absurd e HV.out, ⟨0, none, 0, rfl⟩, HX.out⟩
end Big
end Go.Proofs.YtplmldkfgeiklaaGreatDoor
/- Words for bytes and texts. -/
namespace Go.Proofs.YtplmldkfgeiklaaGreatDoor
namespace Big
open Go.RowKit

def d8 (b : UInt8) : Value := .int .u8 (b.toNat : Int)
/-- The text with these bytes. -/
def str (l : List UInt8) : Value := .string ⟨l.toArray⟩
theorem ones_d8 {bs : List UInt8} : ∀ u ∈ bs.map d8, u.oneCell' = true := fun u hu => by
  obtain ⟨x, _, rfl⟩ := List.mem_map.1 hu
  rfl
theorem info_u8 : (Tryz.prog.info? 5).map (fun i => (i.zero, i.size, i.bytes)) = some (some (.int .u8 0), 1, 1) := by kernel_rfl

/-- v reads as the bytes bs. -/
def Arr8 (w : World) (v : Value) (bs : List UInt8) : Prop := RArr w v (bs.map d8)
def Own8 (B : Nat) (w : World) (v : Value) (bs : List UInt8) : Prop := ROwn 5 B w v (bs.map d8)
section
variable {w w' : World} {v : Value} {bs : List UInt8} {B B' : Nat}
theorem Arr8.ext (h : Arr8 w v bs) (hb : Ext w w') : Arr8 w' v bs := RArr.ext h hb
theorem Own8.ext (h : Own8 B w v bs) (hb : Ext w w') : Own8 B w' v bs := ROwn.ext h hb
theorem Own8.mono (h : Own8 B w v bs) (hB : B' ≤ B) : Own8 B' w v bs := ROwn.mono h hB
theorem Own8.arr (h : Own8 B w v bs) : Arr8 w v bs := ROwn.arr h
theorem Own8.none_ (B : Nat) (w : World) : Own8 B w (.slice none 0 0) [] := ROwn.none_ _ B w
theorem Arr8.fresh1 (w : World) (t : Int) (y : UInt8) (ht : t = (y.toNat : Int)) : Arr8 (w.alloc (.cells #[.int .u8 t] 5)) (.slice (some ⟨w.heap.size, 0, none⟩) 1 1) [y] := by
  subst ht; exact RArr.one (by simp [d8])
theorem map_d8_get {j : Nat} (hj : j < bs.length) : (bs.map d8)[j]? = some (d8 bs[j]) := by
  rw [List.getElem?_map, List.getElem?_eq_getElem hj]; rfl
theorem Arr8.open (h : Arr8 w v bs) : ∃ A c, v = .slice A bs.length c ∧ bs.length ≤ c ∧ c ≤ maxLen ∧
    (0 < bs.length → ∃ b o, A = some ⟨b, o, none⟩ ∧ b < w.heap.size ∧ ∀ j (hj : j < bs.length), w.cell? ⟨b, o + j, none⟩ = some (d8 bs[j])) := by
  obtain ⟨A, c, rfl, h2, h3, h4⟩ := h
  rw [List.length_map] at h2 h4
  refine ⟨A, c, by rw [List.length_map], h2, h3, fun hp => ?_⟩
  obtain ⟨b, o, rfl, hlt, hc⟩ := h4 hp
  exact ⟨b, o, rfl, hlt, fun j hj => hc j _ (map_d8_get hj)⟩
end

theorem wpList_append8 {w : World} {v src : Value} {xs ys : List UInt8} {B : Nat} {ops : Array Oper} {rest : List Oper} {o : Oper} {a : Act} {Q : Exit → Act → World → Prop} (hgd : o.guard = none) (s x : Operand)
    (ho : o.op = .call { callee := .builtin .append, args := #[s, x], argTypes := #[43, 43] })
    (hs : a.eval s = v) (hown : Own8 B w v xs) (hx : a.eval x = src) (hsrc : Arr8 w src ys) (hn : xs.length + ys.length ≤ 2147483648) (hbase : B ≤ w.heap.size)
    (h : ∀ v' w', Own8 B w' v' (xs ++ ys) → w.grownBy w' (rowOf v) → Below B w w' → wpList Tryz.prog ops Q rest (a.put o.dst v') w') : wpList Tryz.prog ops Q (o :: rest) a w := by
  obtain ⟨i0, hi, hz0, hz1, hz2⟩ := info_parts info_u8
  have hb := bound32 hn
  refine wpList_append_any hgd s x 43 ho 5 i0 _ 1 Tryz.underlying43 hi hz0 hz1 hz2 rfl hs hown hx hsrc ones_d8 (by simpa using hb.1) (by simp only [List.length_map]; omega) hbase (fun v' w' h1 h2 h3 => h v' w' ?_ h2 h3)
  unfold Own8
  rw [List.map_append]
  exact h1

theorem u8_back (bs : List UInt8) : strOfNums (bs.map fun b => (b.toNat : Int)) = ⟨bs.toArray⟩ := by
  unfold strOfNums
  congr 1
  apply Array.ext'
  simp [List.map_map, Function.comp_def]

/-- 'string(b)' -/
theorem run_string8 {w : World} {v : Value} {bs : List UInt8} (h : Arr8 w v bs) : (convert 43 9 v).run Tryz.prog w = .ok (str bs) w := by
  obtain ⟨A, c, rfl, h2, h3, h4⟩ := h.open
  rcases Nat.eq_zero_or_pos bs.length with h0 | h0
  · have := List.eq_nil_of_length_eq_zero h0
    subst this
    rcases A with _ | a
    · exact run_convert_bytes_nil w 43 5 Tryz.underlying43 Tryz.underlying5 0 c 9 Tryz.underlying9
    · rw [run_convert_bytes_string w 43 9 5 _ _ c Tryz.underlying43 Tryz.underlying5 Tryz.underlying9]
      have := run_bytesToString (P := Tryz.prog) w a 0 c [] (by simp [loadCells, loadCellsFrom])
      exact this
  · obtain ⟨b, o, rfl, hlt, hc⟩ := h4 h0
    have := run_convert_bytes_arg (P := Tryz.prog) w 43 5 Tryz.underlying43 Tryz.underlying5 b o bs.length c (bs.map fun b => (b.toNat : Int)) (by simp) (fun i hi => by
      rw [hc i hi]
      simp [d8, hi]) 9 Tryz.underlying9
    rw [u8_back] at this
    exact this
end Big
end Go.Proofs.YtplmldkfgeiklaaGreatDoor
namespace Go.Proofs.YtplmldkfgeiklaaGreatDoor
namespace Big
open Go.RowKit
theorem str_append (a b : List UInt8) : (⟨a.toArray⟩ : ByteArray) ++ ⟨b.toArray⟩ = ⟨(a ++ b).toArray⟩ := by
  apply ByteArray.ext
  simp
theorem run_add_str (a b : List UInt8) (h : a.length + b.length ≤ 2147483648) (W : World) : (binOp .add 9 (str a) (str b)).run Tryz.prog W = .ok (str (a ++ b)) W := by
  unfold str
  simp [go_sem, str_append]
  omega
theorem digit_ext (r : Nat) (h : r < 10) : (⟨#[48, 49, 50, 51, 52, 53, 54, 55, 56, 57]⟩ : ByteArray).extract r (r + 1) = ⟨[UInt8.ofNat (48 + r)].toArray⟩ := by
  have : r = 0 ∨ r = 1 ∨ r = 2 ∨ r = 3 ∨ r = 4 ∨ r = 5 ∨ r = 6 ∨ r = 7 ∨ r = 8 ∨ r = 9 := by omega
  rcases this with rfl | rfl | rfl | rfl | rfl | rfl | rfl | rfl | rfl | rfl <;> rfl
theorem run_add_digit (r : Nat) (h : r < 10) (t : List UInt8) (ht : t.length ≤ 1073741824) (W : World) :
    (binOp .add 9 (.string ((⟨#[48, 49, 50, 51, 52, 53, 54, 55, 56, 57]⟩ : ByteArray).extract r (r + 1))) (str t)).run Tryz.prog W = .ok (str (UInt8.ofNat (48 + r) :: t)) W := by
  rw [digit_ext r h]
  exact run_add_str [UInt8.ofNat (48 + r)] t (by simp; omega) W
theorem run_index_str (l : List UInt8) (k : Nat) (h : k < l.length) (W : World) :
    (Instr.index 9 (.string ⟨l.toArray⟩) (.int .i64 (k : Int))).run Tryz.prog W = .ok (d8 l[k]) W := by
  have h1 := run_index_string (P := Tryz.prog) W 9 ⟨l.toArray⟩ .i64 (k : Int) Tryz.underlying9
  have hs : (⟨l.toArray⟩ : ByteArray).size = l.length := by simp [ByteArray.size]
  rw [h1, dif_pos ⟨by omega, by rw [hs]; omega⟩]
  rfl
end Big
end Go.Proofs.YtplmldkfgeiklaaGreatDoor
/- Rules of the walk for texts: 'str l' is taken as it stands, by the list of its bytes. -/
namespace Go.Proofs.YtplmldkfgeiklaaGreatDoor
namespace Big
open Go.RowKit

/-- The byte at a place of a text. -/
def byteAt (l : List UInt8) (i : Nat) : Nat := (l.getD i 0).toNat
theorem byteAt_lt (l : List UInt8) (i : Nat) : byteAt l i < 256 := UInt8.toNat_lt _
theorem byteAt_eq (l : List UInt8) (i : Nat) (h : i < l.length) : byteAt l i = l[i].toNat := by
  unfold byteAt; rw [List.getD_eq_getElem?_getD, List.getElem?_eq_getElem h]; rfl
theorem size_str (l : List UInt8) : (⟨l.toArray⟩ : ByteArray).size = l.length := by simp [ByteArray.size]
@[go_sem] theorem run_len_str (l : List UInt8) (ty : TypeId) (W : World) : (Builtin.len_ #[9] ty #[str l]).run Tryz.prog W = .ok (.int .i64 (l.length : Int)) W := by
  have := run_len_string (P := Tryz.prog) W 9 ty ⟨l.toArray⟩ Tryz.underlying9
  rw [size_str] at this
  exact this
@[go_sem] theorem run_idx_str (l : List UInt8) (k : IntKind) (i : Int) (W : World) :
    (Instr.index 9 (str l) (.int k i)).run Tryz.prog W = if 0 ≤ i ∧ i < (l.length : Int) then .ok (.int .u8 (byteAt l i.toNat : Int)) W else (boundsPanic k i (l.length : Int) .index).run Tryz.prog W := by
  have h2 := run_index_string (P := Tryz.prog) W 9 ⟨l.toArray⟩ k i Tryz.underlying9
  by_cases h : 0 ≤ i ∧ i < (l.length : Int)
  · rw [dif_pos ⟨h.1, by rw [size_str]; exact h.2⟩] at h2
    have h3 : i.toNat < l.length := by omega
    rw [if_pos h, byteAt_eq l _ h3]
    exact h2
  · rw [dif_neg (by rw [size_str]; exact h), size_str] at h2
    rw [if_neg h]
    exact h2
@[go_sem] theorem eqGuard_str (op : BinOp) (t : TypeId) (x y : Operand) (a : List UInt8) (v : Value) : eqGuard op t x y (str a) v = pure () := by
  unfold str; cases op <;> cases v <;> rfl
@[go_sem] theorem eqGuard_str_const (op : BinOp) (t : TypeId) (x y : Operand) (a : List UInt8) (s : ByteArray) : eqGuard op t x y (.string s) (str a) = pure () := by
  unfold str; cases op <;> rfl
@[go_sem] theorem eql_str (a b : List UInt8) : binOp .eql 9 (str a) (str b) = pure (.bool (a == b)) := by
  unfold str; rw [binOp_string_eql, ByteArray.toList_mk, ByteArray.toList_mk]
@[go_sem] theorem neq_str (a b : List UInt8) : binOp .neq 9 (str a) (str b) = pure (.bool !(a == b)) := by
  unfold str; rw [binOp_string_neq, ByteArray.toList_mk, ByteArray.toList_mk]
@[go_sem] theorem eql_str_const (a b : List UInt8) : binOp .eql 9 (str a) (.string ⟨b.toArray⟩) = pure (.bool (a == b)) := eql_str a b
@[go_sem] theorem neq_str_const (a b : List UInt8) : binOp .neq 9 (str a) (.string ⟨b.toArray⟩) = pure (.bool !(a == b)) := neq_str a b
theorem extract_str (l : List UInt8) (a b : Nat) : (⟨l.toArray⟩ : ByteArray).extract a b = ⟨((l.drop a).take (b - a)).toArray⟩ := by
  apply ByteArray.ext
  apply Array.ext'
  rw [Lib.extract_data]
@[go_sem] theorem run_slice_str (l : List UInt8) (k k' : IntKind) (i j : Int) (W : World) :
    (Instr.slice 9 (str l) (some (.int k i)) (some (.int k' j)) none).run Tryz.prog W =
      if 0 ≤ j ∧ j ≤ (l.length : Int) then
        (if 0 ≤ i ∧ i ≤ j then .ok (str ((l.take j.toNat).drop i.toNat)) W
         else ((boundsPanic k i j.toNat .sliceB : Sem Nat).run Tryz.prog W).andThen fun a w' => .ok (str ((l.take j.toNat).drop a)) w')
      else ((boundsPanic k' j l.length .sliceAlen : Sem Nat).run Tryz.prog W).andThen fun b w' =>
        ((Instr.sliceBound (.int k i) b .sliceB).run Tryz.prog w').andThen fun a w'' => .ok (str ((l.take b).drop a)) w'' := by
  unfold str
  rw [run_slice_string_if (P := Tryz.prog) W 9 ⟨l.toArray⟩ k k' i j Tryz.underlying9]
  simp only [size_str, extract_str, List.drop_take]
@[go_sem] theorem run_slice_str_from (l : List UInt8) (k : IntKind) (i : Int) (W : World) :
    (Instr.slice 9 (str l) (some (.int k i)) none none).run Tryz.prog W =
      if 0 ≤ i ∧ i ≤ (l.length : Int) then .ok (str (l.drop i.toNat)) W else ((boundsPanic k i l.length .sliceB : Sem Nat).run Tryz.prog W).andThen fun a w' => .ok (str (l.drop a)) w' := by
  unfold str
  rw [run_slice_string_from_if (P := Tryz.prog) W 9 ⟨l.toArray⟩ k i Tryz.underlying9]
  have hd : ∀ a, (l.drop a).take (l.length - a) = l.drop a := fun a => List.take_of_length_le (by simp)
  simp only [size_str, extract_str, hd]
@[go_sem] theorem run_slice_str_to (l : List UInt8) (k : IntKind) (j : Int) (W : World) :
    (Instr.slice 9 (str l) none (some (.int k j)) none).run Tryz.prog W =
      if 0 ≤ j ∧ j ≤ (l.length : Int) then .ok (str (l.take j.toNat)) W else ((boundsPanic k j l.length .sliceAlen : Sem Nat).run Tryz.prog W).andThen fun a w' => .ok (str (l.take a)) w' := by
  unfold str
  rw [run_slice_string_to_if (P := Tryz.prog) W 9 ⟨l.toArray⟩ k j Tryz.underlying9]
  simp only [size_str, extract_str, List.drop_zero, Nat.sub_zero]
@[go_sem high] theorem run_store_str (P : Program) (w : World) (a : Addr) (l : List UInt8) (m : Mode) : (store a (str l) m).run P w = stored P w a (str l) m := run_store P w a _ m rfl
@[go_sem high] theorem cells_str (l : List UInt8) : (str l).cells = #[str l] := rfl
@[go_sem high] theorem cells_match_str (l : List UInt8) : (match str l with | Value.agg cs => cs | v => #[v]) = #[str l] := rfl
@[go_sem high] theorem oneCell_str (l : List UInt8) : (str l).oneCell' = true := rfl
end Big
end Go.Proofs.YtplmldkfgeiklaaGreatDoor
