import Derived.Test.YtglmfalabkdplaaDoorW22
namespace Go.Proofs.YtglmfalabkdplaaDoor
namespace Big
open Go.RowKit

theorem fill_step2 (N k : Nat) (h : k < N) : (List.replicate k (49 : UInt8) ++ List.replicate (N - k) 0).set k 49 = List.replicate (k + 1) 49 ++ List.replicate (N - (k + 1)) 0 := by
  rw [List.set_append_right _ _ (by simp), List.length_replicate, Nat.sub_self, show N - k = (N - (k + 1)) + 1 by omega, List.replicate_succ, List.set_cons_zero, List.replicate_succ' , List.append_assoc]
  rfl

set_option maxHeartbeats 1600000 in
set_option maxRecDepth 100000 in
theorem dlong_neg (a0 : Int) (d : UInt8) (w : World) (h1 : -9223372036854775808 ≤ a0) (h2 : a0 ≤ 9223372036854775807) (hT : Tab16 w) :
    Calls Tryd.prog 6 #[.int .i64 a0, .int .u8 (d.toNat : Int), .bool true] w fun e w' => e = .returned (.bool true) ∧ Ext w w' := by
  have HT := Lib.hid hT
  have HM := Lib.hid (fun W => mod6_any W a0 h1 h2)
  obtain ⟨m, hm⟩ : ∃ m : Nat, 19998 + a0 % 6 = (m : Int) + 1 := ⟨(19997 + a0 % 6).toNat, by omega⟩
  have hmb : 19997 ≤ m ∧ m ≤ 20002 := by omega
  obtain ⟨hm1, hm2⟩ := hmb
  have hmk := run_make8 (m + 1) (by omega)
  have hdb := UInt8.toNat_lt d
  have HDD := Lib.hid (isDig_iff d)
  clear h1 h2 hT
  go_enter Tryd.func6, Tryd.ntmps6
  go_wp2_with fail
  refine (awake_any _ HT.out).mono ?_
  rintro e w1 ⟨rfl, hx1⟩
  have HX1 := Lib.hid hx1; clear hx1
  go_wp2_with fail
  refine (HM.out _).mono ?_
  rintro e w1' ⟨rfl, rfl⟩
  simp only [Int.natCast_add, Int.natCast_one] at hmk
  go_wp2_with fail
  go_loopw [27] (fun i wr => ∃ k : Nat, k ≤ m + 1 ∧ i = .int .i64 k ∧ Blk wr w1.heap.size 5 (cells8 (List.replicate k 49 ++ List.replicate (m + 1 - k) 0)) ∧ Ext w wr) (fun i _ => m + 1 - (intOf i).toNat)
  case atStart => exact ⟨0, by omega, rfl, by simpa using Blk.new w1 5 (cells8 (List.replicate (m + 1) 0)), HX1.out.alloc _⟩
  case round =>
    obtain ⟨k, hk, rfl, hblk, hext⟩ := hrel
    have HB := Lib.hid hblk; clear hblk
    have hw1 := HX1.out.size
    by_cases hlt : k < m + 1
    · have hst := HB.out.cell k
      have hfz := HB.out.frozen k
      rw [get_cells8 _ _ (by simp; omega)] at hst
      go_wp2_with fail
      go_roundw
      case rel =>
        refine ⟨k + 1, by omega, by go_num, ?_, hext.setCell hw1 _⟩
        have := HB.out.set_ k (d8 49)
        rw [set_cells8, fill_step2 _ _ hlt] at this
        exact this
      case measure => simp [intOf]; omega
    · obtain rfl : k = m + 1 := by omega
      have hb0 := HB.out
      rw [Nat.sub_self, List.replicate_zero, List.append_nil] at hb0
      have hst := hb0.cell m
      have hfz := hb0.frozen m
      rw [get_cells8 _ _ (by simp)] at hst
      have hb1 := hb0.set_ m (d8 d)
      rw [set_cells8] at hb1
      have HB1 := Lib.hid hb1
      clear hb0 hb1
      have hst0 := HB1.out.cell 0
      have hfz0 := HB1.out.frozen 0
      rw [get_cells8 _ _ (by simp)] at hst0
      have hb2 := HB1.out.set_ 0 (d8 45)
      rw [set_cells8] at hb2
      have HBF := Lib.hid hb2
      clear hb2
      have HEF := Lib.hid ((hext.setCell (p := ⟨w1.heap.size, m, none⟩) hw1 (d8 d)).setCell (p := ⟨w1.heap.size, 0, none⟩) hw1 (d8 45))
      have HLL := Lib.hid (show longL (m + 1) d true = ((List.replicate (m + 1) (49 : UInt8)).set m d).set 0 45 from rfl)
      have harr := Arr8.block HBF.out (by simp; omega)
      rw [← HLL.out, longL_length] at harr
      have hcv := run_string8 harr
      have hlen := longL_length (m + 1) d true
      have HLEN := Lib.hid hlen
      have HBAD := Lib.hid (fun hd => longL_bad (n := m + 1) (d := d) (neg := true) (by omega) hd)
      obtain ⟨l, hl⟩ : ∃ l, longL (m + 1) d true = l := ⟨_, rfl⟩
      rw [hl] at hcv HBAD HLEN
      clear hl harr hlen hmk hlt hk
      simp only [d8, show ((45 : UInt8).toNat : Int) = 45 from rfl] at hst hcv HEF hst0 hfz0
      by_cases htoo : 20001 < m + 1
      · have HP := Lib.hid (fun W => parse_any W l)
        rw [parse_too (by rw [HLEN.out]; exact htoo)] at HP
        have HNA := Lib.hid (fun W => natural_any W l)
        rw [natural_too (by rw [HLEN.out]; exact htoo)] at HNA
        go_wp2_with fail
        refine (HP.out _).mono ?_
        rintro e2 w2 ⟨v2, rfl, hi2, hx2⟩
        have HX2 := Lib.hid (HEF.out.trans hx2)
        obtain ⟨m2, hv2, ho2⟩ := hi2
        obtain ⟨A2, c2, hm2', _⟩ := ho2.2
        subst hm2'
        subst hv2
        clear ho2 hx2
        go_wp2_with fail
        refine (HNA.out _).mono ?_
        rintro e3 w3 ⟨v3, rfl, ho3, hx3⟩
        have HX3 := Lib.hid ((HX2.out.alloc _).trans hx3)
        clear ho3 hx3
        go_wp2_with fail
        go_ret
        exact ⟨rfl, HX3.out⟩
      · by_cases hdig : isDig d = true
        · obtain ⟨hd1, hd2⟩ := HDD.out.1 hdig
          clear hdig
          go_wp2_with fail
          go_ret
          exact ⟨rfl, HEF.out⟩
        · have hdf : isDig d = false := by simpa using hdig
          have hor : d.toNat < 48 ∨ 57 < d.toNat := by
            have := HDD.out
            rw [hdf] at this
            simp at this
            omega
          obtain ⟨hbad1, hbad2⟩ := HBAD.out hdf
          have HP := Lib.hid (fun W => parse_any W l)
          rw [parse_bad (by rw [HLEN.out]; omega) hbad1 hbad2] at HP
          have HNA := Lib.hid (fun W => natural_any W l)
          rw [natural_bad (by rw [HLEN.out]; omega) hbad1] at HNA
          clear hbad1 hbad2 hdf hdig
          have htoo' : m + 1 ≤ 20001 := by omega
          clear htoo
          rcases hor with hlo | hlo
          all_goals
            go_wp2_with fail
            refine (HP.out _).mono ?_
            rintro e2 w2 ⟨v2, rfl, hi2, hx2⟩
            have HX2 := Lib.hid (HEF.out.trans hx2)
            obtain ⟨m2, hv2, ho2⟩ := hi2
            obtain ⟨A2, c2, hm2', _⟩ := ho2.2
            subst hm2'
            subst hv2
            clear ho2 hx2
            go_wp2_with fail
            refine (HNA.out _).mono ?_
            rintro e3 w3 ⟨v3, rfl, ho3, hx3⟩
            have HX3 := Lib.hid ((HX2.out.alloc _).trans hx3)
            clear ho3 hx3
            go_wp2_with fail
            go_ret
            exact ⟨rfl, HX3.out⟩

end Big
end Go.Proofs.YtglmfalabkdplaaDoor
