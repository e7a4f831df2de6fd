import Derived.Test.YtbmmnpggadakdaaDoorW42
import Derived.Test.YtbmmnpggadakdaaDoorW37
/- RecordNumbers. -/
namespace Go.Proofs.YtbmmnpggadakdaaDoor
namespace Big
open Go.RowKit
theorem number_fmt (z : Int) (h1 : -999999999 ≤ z) (h2 : z ≤ 999999999) : numberS (fmtI z) = (z, true) := by
  have hlen : (dec z.natAbs).length ≤ 9 := length_dec_le (by omega) (length_low_le (by omega))
  unfold numberS
  rw [parse_fmt z (by omega)]
  exact if_pos ⟨rfl, h1, h2⟩
/-- The words that the statement tries. -/
def nine (l : List UInt8) : List (List UInt8) := [l, [57, 57, 57, 57, 57, 57, 57, 57, 57], [49, 48, 48, 48, 48, 48, 48, 48, 48, 48], [45, 57, 57, 57, 57, 57, 57, 57, 57, 57], [45, 49, 48, 48, 48, 48, 48, 48, 48, 48, 48], [45, 48], [48, 48], [], [45]]
theorem nine_length (l : List UInt8) : (nine l).length = 9 := rfl
theorem recNumbers_long (w : World) (l : List UInt8) (n : Int) (hT : Tab16 w) (hm : MaxVar w) (hl : 200 < l.length) :
    Calls Tryd.prog 5 #[str l, .int .i64 n] w fun e w' => e = .returned (.bool true) ∧ Ext w w' := by
  have HT := Lib.hid hT
  have HM := Lib.hid hm
  have h' : (200 : Int) < (l.length : Int) := by omega
  clear hT hm hl
  go_enter Tryd.func5, Tryd.ntmps5
  go_wp2_with fail
  refine (awake34_any _ HT.out HM.out).mono ?_
  rintro e1 w1 ⟨rfl, hx1⟩
  have HX1 := Lib.hid hx1; clear hx1
  go_wp2_with fail
  go_ret
  exact ⟨rfl, HX1.out⟩
set_option maxHeartbeats 4000000 in
set_option maxRecDepth 100000 in
theorem recNumbers_short (w : World) (l : List UInt8) (n : Int) (hb : -9223372036854775808 ≤ n ∧ n ≤ 9223372036854775807) (hT : Tab16 w) (hm : MaxVar w) (hl : l.length ≤ 200) :
    Calls Tryd.prog 5 #[str l, .int .i64 n] w fun e w' => e = .returned (.bool true) ∧ Ext w w' := by
  have HT := Lib.hid hT
  have HM := Lib.hid hm
  have hln := Lib.hid hl
  obtain ⟨s, hs⟩ : ∃ s : ByteArray, s = ⟨l.toArray⟩ := ⟨_, rfl⟩
  have hst : str l = .string s := by rw [hs]; rfl
  have h' : ¬ (200 : Int) < (s.size : Int) := by rw [hs, size_str]; omega
  rw [hst]
  have HST := Lib.hid hst
  have hz : -999999999 ≤ n.tmod 1000000000 ∧ n.tmod 1000000000 ≤ 999999999 := by
    have h := Int.tmod_eq_emod (a := n) (b := 1000000000)
    rw [h]
    have h1 := Int.emod_nonneg n (show (1000000000 : Int) ≠ 0 by omega)
    have h2 := Int.emod_lt_of_pos n (show (0 : Int) < 1000000000 by omega)
    split <;> omega
  obtain ⟨z, hzz⟩ : ∃ z, n.tmod 1000000000 = z := ⟨_, rfl⟩
  rw [hzz] at hz
  obtain ⟨hz1, hz2⟩ := hz
  have HX := Lib.hid (fun W => text_any W z hz1 hz2)
  have HN := Lib.hid (fun W => number_any W (fmtI z))
  rw [number_fmt z hz1 hz2] at HN
  clear hT hm hl hs hst
  generalize fmtI z = tz at *
  go_enter Tryd.func5, Tryd.ntmps5
  go_wp2_with fail
  refine (awake34_any _ HT.out HM.out).mono ?_
  rintro e1 w1 ⟨rfl, hx1⟩
  have HX1 := Lib.hid hx1; clear hx1
  go_wp2_with fail
  have harr : ArrS (w1.alloc (.cells ((nine l).map str).toArray 9)) (.slice (some ⟨w1.heap.size, 0, none⟩) 9 9) (nine l) :=
    (OwnS.block (B := w1.heap.size) (ls := nine l) (Blk.new w1 9 _) (Nat.le_refl _) (by simp [nine])).arr
  have hcs : ((nine l).map str).toArray = #[Value.string s, .string ⟨#[57, 57, 57, 57, 57, 57, 57, 57, 57]⟩, .string ⟨#[49, 48, 48, 48, 48, 48, 48, 48, 48, 48]⟩, .string ⟨#[45, 57, 57, 57, 57, 57, 57, 57, 57, 57]⟩, .string ⟨#[45, 49, 48, 48, 48, 48, 48, 48, 48, 48, 48]⟩, .string ⟨#[45, 48]⟩, .string ⟨#[48, 48]⟩, .string ⟨#[]⟩, .string ⟨#[45]⟩] := by
    simp only [nine, List.map_cons, List.map_nil, HST.out]
    rfl
  rw [hcs] at harr
  have HARR := Lib.hid harr
  clear harr hcs
  have hn9 := nine_length l
  go_loopw [21] (fun i wr => ∃ k : Nat, k ≤ 9 ∧ i = .int .i64 k ∧ ArrS wr (.slice (some ⟨w1.heap.size, 0, none⟩) 9 9) (nine l) ∧ Ext w wr) (fun i _ => 9 - (intOf i).toNat)
  case atStart => exact ⟨0, by omega, rfl, HARR.out, HX1.out.alloc _⟩
  case round =>
    obtain ⟨k, hk, rfl, harr, hext⟩ := hrel
    have HA := Lib.hid harr
    have HX2 := Lib.hid hext
    by_cases hlt : k < 9
    · obtain ⟨A', c', hv, _, _, hcell⟩ := harr.open
      injection hv with hv hv1 hv2
      clear hv1 hv2
      subst hv
      obtain ⟨b, o, hbo, _, hcell⟩ := hcell (by rw [hn9]; omega)
      injection hbo with hbo
      injection hbo with h1 h2 _
      subst h1
      subst h2
      have hx := hcell k (by rw [hn9]; exact hlt)
      rw [Nat.zero_add] at hx
      clear hcell harr hext
      have hki : (k : Int) < 9 := by omega
      generalize (nine l)[k] = y at *
      have HN1 := Lib.hid (fun W => number_any W y)
      have HN2 := Lib.hid (fun W => rnumber_any W y)
      generalize numberS y = q at *
      obtain ⟨q1, q2⟩ := q
      go_wp2_with fail
      refine (HN1.out _).mono ?_
      rintro e2 w2 ⟨rfl, hx2⟩
      have HX23 := Lib.hid hx2; clear hx2
      go_wp2_with fail
      refine (HN2.out _).mono ?_
      rintro e3 w3 ⟨rfl, hx3⟩
      have HX3 := Lib.hid (HX23.out.trans hx3); clear hx3
      go_wp2_with fail
      go_roundw
      case rel => exact ⟨k + 1, by omega, by go_num, HA.out.ext HX3.out, HX2.out.trans HX3.out⟩
      case measure => simp [intOf]; omega
    · obtain rfl : k = 9 := by omega
      clear harr hext hlt hk
      go_wp2_with fail
      refine (HX.out _).mono ?_
      rintro e2 w2 ⟨rfl, rfl⟩
      go_wp2_with fail
      refine (HN.out _).mono ?_
      rintro e3 w3 ⟨rfl, hx3⟩
      have HX3 := Lib.hid (HX2.out.trans hx3); clear hx3
      go_wp2_with fail
      go_ret
      exact ⟨rfl, HX3.out⟩
theorem recNumbers_any (w : World) (l : List UInt8) (n : Int) (hb : -9223372036854775808 ≤ n ∧ n ≤ 9223372036854775807) (hT : Tab16 w) (hm : MaxVar w) :
    Calls Tryd.prog 5 #[str l, .int .i64 n] w fun e w' => e = .returned (.bool true) ∧ Ext w w' := by
  rcases Nat.lt_or_ge 200 l.length with hl | hl
  · exact recNumbers_long w l n hT hm hl
  · exact recNumbers_short w l n hb hT hm hl
end Big
end Go.Proofs.YtbmmnpggadakdaaDoor
