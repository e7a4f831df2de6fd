import Derived.Test.YtplmldkfgeiklaaGreatDoorM19
import Derived.Deep.RegionLaw
import Derived.Test.YtplmldkfgeiklaaGreatDoorRows
import Derived.Test.YtplmldkfgeiklaaGreatDoorM4
import Derived.ProofKit
import Derived.LaidMore
import Derived.OpenShut
import Derived.Stop.Joined
import Derived.Lib.LaidTab
import Derived.Carry
import Derived.Handed
import Derived.HandedShaped
import Derived.Deep.Strs
import Derived.ChangeMaps5
import Derived.Lib.SmallJoins
import Derived.Test.YtplmldkfgeiklaaGreatDoorM17
/- RationalLaws. Printed by a program. -/
namespace Go.Proofs.YtplmldkfgeiklaaGreatDoor
namespace Big
open Go.RowKit
set_option maxHeartbeats 4000000 in
set_option maxRecDepth 100000 in
theorem rationalLaws_any (w : World) (b0 : Bool) (m0 d0 : Value) (xs0 ys0 : List Nat) (h0 : Arr w m0 xs0) (e0 : Arr w d0 ys0) (b1 : Bool) (m1 d1 : Value) (xs1 ys1 : List Nat) (h1 : Arr w m1 xs1) (e1 : Arr w d1 ys1) (b2 : Bool) (m2 d2 : Value) (xs2 ys2 : List Nat) (h2 : Arr w m2 xs2) (e2 : Arr w d2 ys2) (hm : MaxV w) (ht : Tab32 w) :
    Calls Tryz.prog 9 #[.agg #[.bool b0, m0, d0], .agg #[.bool b1, m1, d1], .agg #[.bool b2, m2, d2]] w fun e w' => e = .returned (.bool true) ∧ Ext w w' := by
  have HAW := Lib.hid (fun W hx => awake07_any W (hm.ext (w' := W) hx) (ht.ext hx))
  have HTW := Lib.hid (fun W (hx : Ext w W) => two_any W b0 m0 d0 xs0 ys0 b1 m1 d1 xs1 ys1 3 (h0.ext hx) (e0.ext hx) (h1.ext hx) (e1.ext hx) (by decide) (by decide))
  rw [show ((3 : Nat) : Int) = 3 from rfl] at HTW
  unfold TwoPost at HTW
  have HRZ := Lib.hid (fun W (hx : Ext w W) => mrat_any W b2 m2 d2 xs2 ys2 3 (h2.ext hx) (e2.ext hx) (by decide) (by decide))
  rw [show ((3 : Nat) : Int) = 3 from rfl] at HRZ
  unfold RatPost at HRZ
  obtain ⟨l0, A0, c0, rfl⟩ := h0.shape
  obtain ⟨k0, D0, t0, rfl⟩ := e0.shape
  obtain ⟨l1, A1, c1, rfl⟩ := h1.shape
  obtain ⟨k1, D1, t1, rfl⟩ := e1.shape
  obtain ⟨l2, A2, c2, rfl⟩ := h2.shape
  obtain ⟨k2, D2, t2, rfl⟩ := e2.shape
  clear h0 e0 h1 e1 h2 e2 hm ht
  go_enter Tryz.func9, Tryz.ntmps9
  go_wp2_with fail
  have hb0 := (((Blk.new w 26 #[Value.bool b0, Value.slice A0 l0 c0, Value.slice D0 k0 t0]).alloc (.cells #[Value.bool b1, Value.slice A1 l1 c1, Value.slice D1 k1 t1] 26)).alloc (.cells #[Value.bool b2, Value.slice A2 l2 c2, Value.slice D2 k2 t2] 26))
  have hb1 := ((Blk.new (w.alloc (.cells #[Value.bool b0, Value.slice A0 l0 c0, Value.slice D0 k0 t0] 26)) 26 #[Value.bool b1, Value.slice A1 l1 c1, Value.slice D1 k1 t1]).alloc (.cells #[Value.bool b2, Value.slice A2 l2 c2, Value.slice D2 k2 t2] 26))
  have hb2 := (Blk.new ((w.alloc (.cells #[Value.bool b0, Value.slice A0 l0 c0, Value.slice D0 k0 t0] 26)).alloc (.cells #[Value.bool b1, Value.slice A1 l1 c1, Value.slice D1 k1 t1] 26)) 26 #[Value.bool b2, Value.slice A2 l2 c2, Value.slice D2 k2 t2])
  have hxo := ((((Ext.refl w).alloc (.cells #[Value.bool b0, Value.slice A0 l0 c0, Value.slice D0 k0 t0] 26)).alloc (.cells #[Value.bool b1, Value.slice A1 l1 c1, Value.slice D1 k1 t1] 26)).alloc (.cells #[Value.bool b2, Value.slice A2 l2 c2, Value.slice D2 k2 t2] 26))
  have hszo : w.heap.size + 1 + 1 + 1 = (((w.alloc (.cells #[Value.bool b0, Value.slice A0 l0 c0, Value.slice D0 k0 t0] 26)).alloc (.cells #[Value.bool b1, Value.slice A1 l1 c1, Value.slice D1 k1 t1] 26)).alloc (.cells #[Value.bool b2, Value.slice A2 l2 c2, Value.slice D2 k2 t2] 26)).heap.size := by simp
  simp only [World.size_alloc] at hb1 hb2
  generalize ((w.alloc (.cells #[Value.bool b0, Value.slice A0 l0 c0, Value.slice D0 k0 t0] 26)).alloc (.cells #[Value.bool b1, Value.slice A1 l1 c1, Value.slice D1 k1 t1] 26)).alloc (.cells #[Value.bool b2, Value.slice A2 l2 c2, Value.slice D2 k2 t2] 26) = wo at *
  have HX := Lib.hid hxo
  have HZ : Hid (w.heap.size + 1 + 1 + 1 ≤ wo.heap.size) := Lib.hid (by omega)
  have HB0 := Lib.hid hb0
  have HB1 := Lib.hid hb1
  have HB2 := Lib.hid hb2
  clear hxo hszo hb0 hb1 hb2
  refine (HAW.out _ HX.out).mono ?_
  rintro e w11 ⟨rfl, hx10⟩
  have HX := Lib.hid (HX.out.trans hx10)
  have HB0 := Lib.hid (HB0.out.ext hx10)
  have HB1 := Lib.hid (HB1.out.ext hx10)
  have HB2 := Lib.hid (HB2.out.ext hx10)
  clear hx10
  obtain ⟨hb0_0, hb0_1, hb0_2, hb0_3, hb0_4, hb0_5, hb0_6⟩ := HB0.out.three
  obtain ⟨hb1_0, hb1_1, hb1_2, hb1_3, hb1_4, hb1_5, hb1_6⟩ := HB1.out.three
  obtain ⟨hb2_0, hb2_1, hb2_2, hb2_3, hb2_4, hb2_5, hb2_6⟩ := HB2.out.three
  go_wp2_with fail
  clear hb0_0 hb0_1 hb0_2 hb0_3 hb0_4 hb0_5 hb0_6 hb1_0 hb1_1 hb1_2 hb1_3 hb1_4 hb1_5 hb1_6 hb2_0 hb2_1 hb2_2 hb2_3 hb2_4 hb2_5 hb2_6
  refine (HTW.out _ HX.out).mono ?_
  rintro e w12 ⟨r11, r12, ok, p, q, r, t, rfl, hi11, hi12, hl, hx11⟩
  have HX := Lib.hid (HX.out.trans hx11)
  have HB0 := Lib.hid (HB0.out.ext hx11)
  have HB1 := Lib.hid (HB1.out.ext hx11)
  have HB2 := Lib.hid (HB2.out.ext hx11)
  clear hx11
  have QX := Lib.hid hi11
  have QY := Lib.hid hi12
  have HL := Lib.hid hl
  obtain ⟨f11, g11, G11, j11, y11, Y11, z11, rfl⟩ := hi11.shape
  obtain ⟨f12, g12, G12, j12, y12, Y12, z12, rfl⟩ := hi12.shape
  clear hi11 hi12 hl
  clear HB0 HB1
  obtain ⟨hb2_0, hb2_1, hb2_2, hb2_3, hb2_4, hb2_5, hb2_6⟩ := HB2.out.three
  go_upto_region 4 with fail
  clear hb2_0 hb2_1 hb2_2 hb2_3 hb2_4 hb2_5 hb2_6
  have hb12_0 := ((Blk.new w12 26 #[Value.bool f11, Value.slice G11 g11 j11, Value.slice Y11 y11 z11]).alloc (.cells #[Value.bool f12, Value.slice G12 g12 j12, Value.slice Y12 y12 z12] 26))
  have hb12_1 := (Blk.new (w12.alloc (.cells #[Value.bool f11, Value.slice G11 g11 j11, Value.slice Y11 y11 z11] 26)) 26 #[Value.bool f12, Value.slice G12 g12 j12, Value.slice Y12 y12 z12])
  have hx12 := (((Ext.refl w12).alloc (.cells #[Value.bool f11, Value.slice G11 g11 j11, Value.slice Y11 y11 z11] 26)).alloc (.cells #[Value.bool f12, Value.slice G12 g12 j12, Value.slice Y12 y12 z12] 26))
  simp only [World.size_alloc] at hb12_1
  have HX := Lib.hid (HX.out.trans hx12)
  have QX := Lib.hid (QX.out.ext hx12)
  have QY := Lib.hid (QY.out.ext hx12)
  have HB2 := Lib.hid (HB2.out.ext hx12)
  have BX := Lib.hid hb12_0
  have BY := Lib.hid hb12_1
  generalize (w12.alloc (.cells #[Value.bool f11, Value.slice G11 g11 j11, Value.slice Y11 y11 z11] 26)).alloc (.cells #[Value.bool f12, Value.slice G12 g12 j12, Value.slice Y12 y12 z12] 26) = w13 at *
  generalize w12.heap.size = a12 at *
  clear hb12_0 hb12_1 hx12
  obtain ⟨hb2_0, hb2_1, hb2_2, hb2_3, hb2_4, hb2_5, hb2_6⟩ := HB2.out.three
  obtain ⟨bx_0, bx_1, bx_2, bx_3, bx_4, bx_5, bx_6⟩ := BX.out.three
  obtain ⟨by_0, by_1, by_2, by_3, by_4, by_5, by_6⟩ := BY.out.three
  go_wp2_with fail
  clear hb2_0 hb2_1 hb2_2 hb2_3 hb2_4 hb2_5 hb2_6 bx_0 bx_1 bx_2 bx_3 bx_4 bx_5 bx_6 by_0 by_1 by_2 by_3 by_4 by_5 by_6
  refine (HRZ.out _ HX.out).mono ?_
  rintro e w14 ⟨r13, fine, p3, q3, rfl, hi13, hlz, hx13⟩
  have HX := Lib.hid (HX.out.trans hx13)
  have QX := Lib.hid (QX.out.ext hx13)
  have QY := Lib.hid (QY.out.ext hx13)
  have HB2 := Lib.hid (HB2.out.ext hx13)
  have BX := Lib.hid (BX.out.ext hx13)
  have BY := Lib.hid (BY.out.ext hx13)
  clear hx13
  have QZ := Lib.hid hi13
  have HLZ := Lib.hid hlz
  obtain ⟨f13, g13, G13, j13, y13, Y13, z13, rfl⟩ := hi13.shape
  clear hi13 hlz
  cases ok with
  | false => cases fine <;> (clear HAW HTW HRZ HL HLZ QX QY QZ; go_wp2_with fail; go_ret; exact ⟨rfl, HX.out.alloc _⟩)
  | true =>
  cases fine with
  | false => (clear HAW HTW HRZ HL HLZ QX QY QZ; go_wp2_with fail; go_ret; exact ⟨rfl, HX.out.alloc _⟩)
  | true =>
  clear HB2
  obtain ⟨bx_0, bx_1, bx_2, bx_3, bx_4, bx_5, bx_6⟩ := BX.out.three
  obtain ⟨by_0, by_1, by_2, by_3, by_4, by_5, by_6⟩ := BY.out.three
  obtain ⟨⟨hlx, hpx, hqx⟩, hly, hpy, hqy⟩ := HL.out rfl
  obtain ⟨hlz, hpz, hqz⟩ := HLZ.out rfl
  clear HL HLZ HAW HTW HRZ
  have byz := sz_add hpy hqy hpz hqz
  have bxy := sz_add hpx hqx hpy hqy
  have mxy := sz_mul hpx hqx hpy hqy
  have mxz := sz_mul hpx hqx hpz hqz
  have lyz := low_add hly hlz
  have lxy := low_add hlx hly
  have kxy := low_mul hlx hly
  have kxz := low_mul hlx hlz
  have bs := sz_add mxy.1 mxy.2 mxz.1 mxz.2
  have bb := sz_add bxy.1 bxy.2 (Nat.le_trans hpz (show 3 ≤ 4 * 3 + 1 by decide)) (Nat.le_trans hqz (show 3 ≤ 4 * 3 + 1 by decide))
  have dd := distrib7 hlx hly hlz
  have ass := assoc7 hlx hly hlz
  have HA1 := Lib.hid (fun W v u x y => addR_any W v r t x (by omega) (by omega) u p3 q3 y (by omega) (by omega) hly.1 hlz.1)
  have HM1 := Lib.hid (fun W v u x y => mulR_any W v p q x (by omega) (by omega) u (addP r t p3 q3) (addQ r t p3 q3) y (by omega) (by omega) hlx.1 lyz.1)
  rw [dd.1, dd.2] at HM1
  have HMXY := Lib.hid (fun W v u x y => mulR_any W v p q x (by omega) (by omega) u r t y (by omega) (by omega) hlx.1 hly.1)
  have HMXZ := Lib.hid (fun W v u x y => mulR_any W v p q x (by omega) (by omega) u p3 q3 y (by omega) (by omega) hlx.1 hlz.1)
  have HA2 := Lib.hid (fun W v u x y => addR_any W v (mulP p q r t) (mulQ p q r t) x (by omega) (by omega) u (mulP p q p3 q3) (mulQ p q p3 q3) y (by omega) (by omega) kxy.1 kxz.1)
  have HS1 := Lib.hid (rsameR_self bs.1 bs.2 (by decide))
  have HA3 := Lib.hid (fun W v u x y => addR_any W v p q x (by omega) (by omega) u r t y (by omega) (by omega) hlx.1 hly.1)
  have HA4 := Lib.hid (fun W v u x y => addR_any W v (addP p q r t) (addQ p q r t) x (by omega) (by omega) u p3 q3 y (by omega) (by omega) lxy.1 hlz.1)
  have HA5 := Lib.hid (fun W v u x y => addR_any W v p q x (by omega) (by omega) u (addP r t p3 q3) (addQ r t p3 q3) y (by omega) (by omega) hlx.1 lyz.1)
  rw [← ass.1, ← ass.2] at HA5
  have HS2 := Lib.hid (rsameR_self bb.1 bb.2 (by decide))
  obtain ⟨cd, P, Q, hcd, hPl, hQl, hdv, hrdv⟩ := div_both (N := 3) (by decide) hpx hqx hpy hqy hlx.1 hly.1
  have HDV := Lib.hid hdv
  have HSG := Lib.hid (fun W v x => signR_any W v r t x (by omega) (by omega))
  have HCD := Lib.hid hcd
  have HPQ := Lib.hid (And.intro hPl hQl)
  have HLOW := Lib.hid (And.intro hlx hly)
  have HLN := Lib.hid (And.intro (And.intro hpx hqx) (And.intro hpy hqy))
  clear hdv hrdv hcd hPl hQl hlx hpx hqx hly hpy hqy hlz hpz hqz byz bxy mxy mxz lyz lxy kxy kxz bs bb dd ass
  generalize addP (mulP p q r t) (mulQ p q r t) (mulP p q p3 q3) (mulQ p q p3 q3) = lP at *
  generalize addQ (mulP p q r t) (mulQ p q r t) (mulP p q p3 q3) (mulQ p q p3 q3) = lQ at *
  generalize addP (addP p q r t) (addQ p q r t) p3 q3 = aP at *
  generalize addQ (addP p q r t) (addQ p q r t) p3 q3 = aQ at *
  go_wp2_with fail
  clear bx_0 bx_1 bx_2 bx_3 bx_4 bx_5 bx_6 by_0 by_1 by_2 by_3 by_4 by_5 by_6
  have hb14 := Blk.new w14 26 #[Value.bool f13, Value.slice G13 g13 j13, Value.slice Y13 y13 z13]
  have hx14 := (Ext.refl w14).alloc (.cells #[Value.bool f13, Value.slice G13 g13 j13, Value.slice Y13 y13 z13] 26)
  have HX := Lib.hid (HX.out.trans hx14)
  have QX := Lib.hid (QX.out.ext hx14)
  have QY := Lib.hid (QY.out.ext hx14)
  have QZ := Lib.hid (QZ.out.ext hx14)
  have BX := Lib.hid (BX.out.ext hx14)
  have BY := Lib.hid (BY.out.ext hx14)
  have BZ := Lib.hid hb14
  generalize w14.alloc (.cells #[Value.bool f13, Value.slice G13 g13 j13, Value.slice Y13 y13 z13] 26) = w15 at *
  generalize w14.heap.size = a14 at *
  clear hb14 hx14
  obtain ⟨bx_0, bx_1, bx_2, bx_3, bx_4, bx_5, bx_6⟩ := BX.out.three
  obtain ⟨by_0, by_1, by_2, by_3, by_4, by_5, by_6⟩ := BY.out.three
  obtain ⟨bz_0, bz_1, bz_2, bz_3, bz_4, bz_5, bz_6⟩ := BZ.out.three
  go_upto_region 7 with fail
  go_cut [12] from 35 to 39 (fun s12 wx => ∃ (gx : Nat) (f9 : Bool) (g9 : Nat) (G9 : Option Addr) (j9 y9 : Nat) (Y9 : Option Addr) (z9 : Nat), s12 = .pointer (some ⟨gx, 0, none⟩) ∧ Blk wx gx 26 #[Value.bool f9, Value.slice G9 g9 j9, Value.slice Y9 y9 z9] ∧ ArrRat wx (.agg #[.bool f9, .slice G9 g9 j9, .slice Y9 y9 z9]) (lP) (lQ) ∧ Ext w15 wx)
  case first =>
    have HE15 := Lib.hid (Ext.refl w15).drew
    go_region_law (first
      | (go_simp; go_at_call 25; have hchk16 := hx15; refine (HM1.out _ _ _ (by first | exact QX.out.arr.ext HE16.out | exact QX.out.arr.ext (HE16.out.alloc _)) (by first | exact R15.out.arr | exact (R15.out.arr).ext ((Ext.refl _).alloc _))).mono ?_; rintro e w17 ⟨r16, rfl, hi16, hx16⟩; have hsz16 := hx16.size; (try simp only [World.size_alloc] at hsz16); have R15 := Lib.hid (by first | exact R15.out.ext hx16 | exact (R15.out.ext ((Ext.refl _).alloc _)).ext hx16); have R16 := Lib.hid hi16; have HE17 : Hid (Ext w15 w17) := Lib.hid (by first | exact HE16.out.trans hx16 | exact (HE16.out.alloc _).trans hx16); (try (have hbn := hbn.ext hx16)); (try (have hbn := (Blk.new _ 26 #[Value.bool false, Value.slice none 0 0, Value.slice none 0 0]).ext hx16)); obtain ⟨f16, g16, G16, j16, y16, Y16, z16, rfl⟩ := hi16.shape; clear hi16 bx_0 bx_1 bx_2 bx_3 bx_4 bx_5 bx_6 by_0 by_1 by_2 by_3 by_4 by_5 by_6 bz_0 bz_1 bz_2 bz_3 bz_4 bz_5 bz_6; obtain ⟨bx_0, bx_1, bx_2, bx_3, bx_4, bx_5, bx_6⟩ := (BX.out.ext HE17.out).three; obtain ⟨by_0, by_1, by_2, by_3, by_4, by_5, by_6⟩ := (BY.out.ext HE17.out).three; obtain ⟨bz_0, bz_1, bz_2, bz_3, bz_4, bz_5, bz_6⟩ := (BZ.out.ext HE17.out).three; (try (obtain ⟨k0, k1, k2, kf0, kf1, kf2, kz⟩ := hbn.three)))
      | (go_simp; go_at_call 42; refine (HA1.out _ _ _ (by first | exact QY.out.arr.ext HE15.out | exact QY.out.arr.ext (HE15.out.alloc _)) (by first | exact QZ.out.arr.ext HE15.out | exact QZ.out.arr.ext (HE15.out.alloc _))).mono ?_; rintro e w16 ⟨r15, rfl, hi15, hx15⟩; have hsz15 := hx15.size; (try simp only [World.size_drew, World.size_alloc] at hsz15); have R15 := Lib.hid hi15; have HE16 : Hid (Ext w15 w16) := Lib.hid (by first | exact HE15.out.trans hx15 | exact (HE15.out.alloc _).trans hx15); (try (have hbn := hbn.ext hx15)); (try (have hbn := (Blk.new _ 26 #[Value.bool false, Value.slice none 0 0, Value.slice none 0 0]).ext hx15)); (try (have hbn := ((Blk.new _ 26 #[Value.bool false, Value.slice none 0 0, Value.slice none 0 0]).drew).ext hx15; (try simp only [World.size_drew] at hbn))); obtain ⟨f15, g15, G15, j15, y15, Y15, z15, rfl⟩ := hi15.shape; clear hi15 bx_0 bx_1 bx_2 bx_3 bx_4 bx_5 bx_6 by_0 by_1 by_2 by_3 by_4 by_5 by_6 bz_0 bz_1 bz_2 bz_3 bz_4 bz_5 bz_6; obtain ⟨bx_0, bx_1, bx_2, bx_3, bx_4, bx_5, bx_6⟩ := (BX.out.ext HE16.out).three; obtain ⟨by_0, by_1, by_2, by_3, by_4, by_5, by_6⟩ := (BY.out.ext HE16.out).three; obtain ⟨bz_0, bz_1, bz_2, bz_3, bz_4, bz_5, bz_6⟩ := (BZ.out.ext HE16.out).three; (try (obtain ⟨k0, k1, k2, kf0, kf1, kf2, kz⟩ := hbn.three))))
    all_goals go_wp2_with fail
    all_goals go_meet
    all_goals have hlw := HE17.out.size
    all_goals first
      | (have hchk : Blk w17 w15.heap.size 26 #[Value.bool false, Value.slice none 0 0, Value.slice none 0 0] := hbn; have hT := ((hchk.set_ 0 (.bool f16)).set_ 1 (.slice G16 g16 j16)).set_ 2 (.slice Y16 y16 z16); exact ⟨_, _, _, _, _, _, _, _, rfl, hT, (((R16.out.far (a := ⟨w15.heap.size, 0, none⟩) (show w15.heap.size < _ by first | omega | (simp <;> omega)) (.bool f16)).far (a := ⟨w15.heap.size, 1, none⟩) (show w15.heap.size < _ by first | omega | (simp <;> omega)) (.slice G16 g16 j16)).far (a := ⟨w15.heap.size, 2, none⟩) (show w15.heap.size < _ by first | omega | (simp <;> omega)) (.slice Y16 y16 z16)).arr, (((HE17.out.setCell (p := ⟨w15.heap.size, 0, none⟩) (show w15.heap.size ≤ _ by (try simp only) <;> omega) (.bool f16)).setCell (p := ⟨w15.heap.size, 1, none⟩) (show w15.heap.size ≤ _ by (try simp only) <;> omega) (.slice G16 g16 j16)).setCell (p := ⟨w15.heap.size, 2, none⟩) (show w15.heap.size ≤ _ by (try simp only) <;> omega) (.slice Y16 y16 z16))⟩)
      | (have hchk : Blk w17 w16.heap.size 26 #[Value.bool false, Value.slice none 0 0, Value.slice none 0 0] := hbn; have hlq := HE16.out.size; have hT := ((hchk.set_ 0 (.bool f16)).set_ 1 (.slice G16 g16 j16)).set_ 2 (.slice Y16 y16 z16); exact ⟨_, _, _, _, _, _, _, _, rfl, hT, (((R16.out.far (a := ⟨w16.heap.size, 0, none⟩) (show w16.heap.size < _ by first | omega | (simp <;> omega)) (.bool f16)).far (a := ⟨w16.heap.size, 1, none⟩) (show w16.heap.size < _ by first | omega | (simp <;> omega)) (.slice G16 g16 j16)).far (a := ⟨w16.heap.size, 2, none⟩) (show w16.heap.size < _ by first | omega | (simp <;> omega)) (.slice Y16 y16 z16)).arr, (((HE17.out.setCell (p := ⟨w16.heap.size, 0, none⟩) (show w15.heap.size ≤ _ by (try simp only) <;> omega) (.bool f16)).setCell (p := ⟨w16.heap.size, 1, none⟩) (show w15.heap.size ≤ _ by (try simp only) <;> omega) (.slice G16 g16 j16)).setCell (p := ⟨w16.heap.size, 2, none⟩) (show w15.heap.size ≤ _ by (try simp only) <;> omega) (.slice Y16 y16 z16))⟩)
      | (have hT := Blk.new w17 26 #[Value.bool f16, Value.slice G16 g16 j16, Value.slice Y16 y16 z16]; exact ⟨_, _, _, _, _, _, _, _, rfl, hT, (R16.out.ext ((Ext.refl w17).alloc _)).arr, HE17.out.alloc _⟩)
  case rest =>
  clear bx_0 bx_1 bx_2 bx_3 bx_4 bx_5 bx_6 by_0 by_1 by_2 by_3 by_4 by_5 by_6 bz_0 bz_1 bz_2 bz_3 bz_4 bz_5 bz_6
  obtain ⟨a19, f19, g19, G19, j19, y19, Y19, z19, rfl, hB19, hR19, hx19⟩ := hcut
  generalize wc = w20 at *
  have HX := Lib.hid (HX.out.trans hx19)
  have QX := Lib.hid (QX.out.ext hx19)
  have QY := Lib.hid (QY.out.ext hx19)
  have QZ := Lib.hid (QZ.out.ext hx19)
  have BX := Lib.hid (BX.out.ext hx19)
  have BY := Lib.hid (BY.out.ext hx19)
  have BZ := Lib.hid (BZ.out.ext hx19)
  have QL := Lib.hid hR19
  have BL := Lib.hid hB19
  clear hR19 hB19 hx19
  go_upto_region 8 with fail
  go_cut [63] from 40 to 63 (fun s63 wx => s63 = .bool false ∧ Ext w20 wx)
  case first =>
    obtain ⟨bx_0, bx_1, bx_2, bx_3, bx_4, bx_5, bx_6⟩ := BX.out.three
    obtain ⟨by_0, by_1, by_2, by_3, by_4, by_5, by_6⟩ := BY.out.three
    obtain ⟨bz_0, bz_1, bz_2, bz_3, bz_4, bz_5, bz_6⟩ := BZ.out.three
    obtain ⟨bl_0, bl_1, bl_2, bl_3, bl_4, bl_5, bl_6⟩ := BL.out.three
    go_region_held3 (fun w' => Ext w20 w' ∧ w'.cell? ⟨a12, 0, none⟩ = some (Value.bool f11) ∧ w'.cell? ⟨a12, 1, none⟩ = some (Value.slice G11 g11 j11) ∧ w'.cell? ⟨a12, 2, none⟩ = some (Value.slice Y11 y11 z11) ∧ w'.cell? ⟨a12 + 1, 0, none⟩ = some (Value.bool f12) ∧ w'.cell? ⟨a12 + 1, 1, none⟩ = some (Value.slice G12 g12 j12) ∧ w'.cell? ⟨a12 + 1, 2, none⟩ = some (Value.slice Y12 y12 z12) ∧ w'.cell? ⟨a14, 0, none⟩ = some (Value.bool f13) ∧ w'.cell? ⟨a14, 1, none⟩ = some (Value.slice G13 g13 j13) ∧ w'.cell? ⟨a14, 2, none⟩ = some (Value.slice Y13 y13 z13) ∧ w'.cell? ⟨a19, 0, none⟩ = some (Value.bool f19) ∧ w'.cell? ⟨a19, 1, none⟩ = some (Value.slice G19 g19 j19) ∧ w'.cell? ⟨a19, 2, none⟩ = some (Value.slice Y19 y19 z19))
      (first | (exact ⟨(Ext.refl w20).drew, bx_0, bx_1, bx_2, by_0, by_1, by_2, bz_0, bz_1, bz_2, bl_0, bl_1, bl_2⟩) | (exact keptS12_0 (by assumption) (by assumption)))
      (first
        | (go_at_call 22; have hchk28 := hz27; refine (HS2.out _ _ _ U4.out.arr U6.out.arr).mono ?_; rintro e w29 ⟨rfl, hx28⟩; clear hz27 hchk28; clear U4 U6; have hz28 := hx28.size)
        | (go_at_call 42; have hchk27 := hz26; refine (HA5.out _ _ _ (QX.out.arr.ext (And.left (by assumption))) U5.out.arr).mono ?_; rintro e w28 ⟨r27, rfl, hi27, hx27⟩; clear hz26 hchk27; clear U5; have hz27 := hx27.size; have U4 := Lib.hid (U4.out.ext hx27); have U6 := Lib.hid hi27; obtain ⟨f27, g27, G27, j27, y27, Y27, z27, rfl⟩ := hi27.shape; clear hi27)
        | (go_at_call 42; have hchk26 := hz25; refine (HA1.out _ _ _ (QY.out.arr.ext (And.left (by assumption))) (QZ.out.arr.ext (And.left (by assumption)))).mono ?_; rintro e w27 ⟨r26, rfl, hi26, hx26⟩; clear hz25 hchk26; have hz26 := hx26.size; have U4 := Lib.hid (U4.out.ext hx26); have U5 := Lib.hid hi26; obtain ⟨f26, g26, G26, j26, y26, Y26, z26, rfl⟩ := hi26.shape; clear hi26)
        | (go_at_call 42; have hchk25 := hz24; refine (HA4.out _ _ _ U3.out.arr (QZ.out.arr.ext (And.left (by assumption)))).mono ?_; rintro e w26 ⟨r25, rfl, hi25, hx25⟩; clear hz24 hchk25; clear U3; have hz25 := hx25.size; have U4 := Lib.hid hi25; obtain ⟨f25, g25, G25, j25, y25, Y25, z25, rfl⟩ := hi25.shape; clear hi25)
        | (go_at_call 42; have hchk24 := hz23; refine (HA3.out _ _ _ (QX.out.arr.ext (And.left (by assumption))) (QY.out.arr.ext (And.left (by assumption)))).mono ?_; rintro e w25 ⟨r24, rfl, hi24, hx24⟩; clear hz23 hchk24; have hz24 := hx24.size; have U3 := Lib.hid hi24; obtain ⟨f24, g24, G24, j24, y24, Y24, z24, rfl⟩ := hi24.shape; clear hi24)
        | (go_at_call 22; have hchk23 := hz22; refine (HS1.out _ _ _ (QL.out.ext (And.left (by assumption))) U2.out.arr).mono ?_; rintro e w24 ⟨rfl, hx23⟩; clear hz22 hchk23; clear U2; have hz23 := hx23.size)
        | (go_at_call 42; have hchk22 := hz21; refine (HA2.out _ _ _ U0.out.arr U1.out.arr).mono ?_; rintro e w23 ⟨r22, rfl, hi22, hx22⟩; clear hz21 hchk22; clear U0 U1; have hz22 := hx22.size; have U2 := Lib.hid hi22; obtain ⟨f22, g22, G22, j22, y22, Y22, z22, rfl⟩ := hi22.shape; clear hi22)
        | (go_at_call 25; have hchk21 := hz20; refine (HMXZ.out _ _ _ (QX.out.arr.ext (And.left (by assumption))) (QZ.out.arr.ext (And.left (by assumption)))).mono ?_; rintro e w22 ⟨r21, rfl, hi21, hx21⟩; clear hz20 hchk21; have hz21 := hx21.size; have U0 := Lib.hid (U0.out.ext hx21); have U1 := Lib.hid hi21; obtain ⟨f21, g21, G21, j21, y21, Y21, z21, rfl⟩ := hi21.shape; clear hi21)
        | (go_at_call 25; refine (HMXY.out _ _ _ (QX.out.arr.ext (And.left (by assumption))) (QY.out.arr.ext (And.left (by assumption)))).mono ?_; rintro e w21 ⟨r20, rfl, hi20, hx20⟩; have hz20 := hx20.size; have U0 := Lib.hid hi20; obtain ⟨f20, g20, G20, j20, y20, Y20, z20, rfl⟩ := hi20.shape; clear hi20))
    all_goals go_wp2_with fail
    all_goals go_meet
    rename_i hS
    have hE := And.left hS
    exact ⟨rfl, hE⟩
  case rest =>
  obtain ⟨rfl, hx29⟩ := hcut
  generalize wc = w30 at *
  have HX := Lib.hid (HX.out.trans hx29)
  have QX := Lib.hid (QX.out.ext hx29)
  have QY := Lib.hid (QY.out.ext hx29)
  have QZ := Lib.hid (QZ.out.ext hx29)
  have QL := Lib.hid (QL.out.ext hx29)
  have BX := Lib.hid (BX.out.ext hx29)
  have BY := Lib.hid (BY.out.ext hx29)
  have BZ := Lib.hid (BZ.out.ext hx29)
  have BL := Lib.hid (BL.out.ext hx29)
  clear hx29
  clear QL QZ BL BZ HA1 HM1 HMXY HMXZ HA2 HS1 HA3 HA4 HA5 HS2
  obtain ⟨bx_0, bx_1, bx_2, bx_3, bx_4, bx_5, bx_6⟩ := BX.out.three
  obtain ⟨by_0, by_1, by_2, by_3, by_4, by_5, by_6⟩ := BY.out.three
  go_wp2_with fail
  clear bx_0 bx_1 bx_2 bx_3 bx_4 bx_5 bx_6 by_0 by_1 by_2 by_3 by_4 by_5 by_6
  refine (HDV.out _ _ _ QX.out.arr QY.out.arr).mono ?_
  rintro e w31 ⟨r30, rfl, hi30, hx30⟩
  have HX := Lib.hid (HX.out.trans hx30)
  have QX := Lib.hid (QX.out.ext hx30)
  have QY := Lib.hid (QY.out.ext hx30)
  have BX := Lib.hid (BX.out.ext hx30)
  have BY := Lib.hid (BY.out.ext hx30)
  have QQ := Lib.hid hi30
  obtain ⟨f30, g30, G30, j30, y30, Y30, z30, rfl⟩ := hi30.shape
  clear hi30
  clear hx30
  obtain ⟨bx_0, bx_1, bx_2, bx_3, bx_4, bx_5, bx_6⟩ := BX.out.three
  obtain ⟨by_0, by_1, by_2, by_3, by_4, by_5, by_6⟩ := BY.out.three
  rcases HCD.out with ⟨rfl, hr, hP, hQ⟩ | ⟨rfl, hr, hP, hQ⟩
  · subst hP
    subst hQ
    have hsb : (sgZ r == 0) = false := by rw [beq_eq_false_iff_ne]; unfold sgZ; split <;> (try split) <;> omega
    have qq := quot7 HLOW.out.1 HLOW.out.2 hr
    have n1 := sz_inv HLN.out.2.1 HLN.out.2.2
    have n2 := sz_mul HLN.out.1.1 HLN.out.1.2 n1.1 n1.2
    have hd : 0 < mulQ p q (invP r t) r.natAbs := lowD_pos (Nat.mul_pos HLOW.out.1.1 (by omega))
    have HMQ := Lib.hid (fun W v u x y => mulR_any W v (mulP p q (invP r t) r.natAbs) (mulQ p q (invP r t) r.natAbs) x (by omega) (by omega) u r t y (by have := HLN.out.2.1; omega) (by have := HLN.out.2.2; omega) hd HLOW.out.2.1)
    rw [qq.1, qq.2] at HMQ
    have HSM := Lib.hid (rsameR_self HLN.out.1.1 HLN.out.1.2 (by decide))
    clear qq n1 n2 hd hr HCD HPQ HLOW HLN
    generalize mulP p q (invP r t) r.natAbs = P at *
    generalize mulQ p q (invP r t) r.natAbs = Q at *
    generalize sgZ r = sg at *
    go_upto_region 11 with fail
    clear bx_0 bx_1 bx_2 bx_3 bx_4 bx_5 bx_6 by_0 by_1 by_2 by_3 by_4 by_5 by_6
    have hb31 := Blk.new w31 26 #[Value.bool f30, Value.slice G30 g30 j30, Value.slice Y30 y30 z30]
    have hx31 := (Ext.refl w31).alloc (.cells #[Value.bool f30, Value.slice G30 g30 j30, Value.slice Y30 y30 z30] 26)
    have HX := Lib.hid (HX.out.trans hx31)
    have QX := Lib.hid (QX.out.ext hx31)
    have QY := Lib.hid (QY.out.ext hx31)
    have QQ := Lib.hid (QQ.out.ext hx31)
    have BX := Lib.hid (BX.out.ext hx31)
    have BY := Lib.hid (BY.out.ext hx31)
    have BQ := Lib.hid hb31
    generalize w31.alloc (.cells #[Value.bool f30, Value.slice G30 g30 j30, Value.slice Y30 y30 z30] 26) = w32 at *
    generalize w31.heap.size = a31 at *
    clear hb31 hx31
    obtain ⟨bx_0, bx_1, bx_2, bx_3, bx_4, bx_5, bx_6⟩ := BX.out.three
    obtain ⟨by_0, by_1, by_2, by_3, by_4, by_5, by_6⟩ := BY.out.three
    obtain ⟨bq_0, bq_1, bq_2, bq_3, bq_4, bq_5, bq_6⟩ := BQ.out.three
    go_wp2_with fail
    clear bx_0 bx_1 bx_2 bx_3 bx_4 bx_5 bx_6 by_0 by_1 by_2 by_3 by_4 by_5 by_6 bq_0 bq_1 bq_2 bq_3 bq_4 bq_5 bq_6
    refine (HSG.out _ _ QY.out.arr).mono ?_
    rintro e w33 ⟨rfl, hx32⟩
    have HX := Lib.hid (HX.out.trans hx32)
    have QX := Lib.hid (QX.out.ext hx32)
    have QY := Lib.hid (QY.out.ext hx32)
    have QQ := Lib.hid (QQ.out.ext hx32)
    have BX := Lib.hid (BX.out.ext hx32)
    have BY := Lib.hid (BY.out.ext hx32)
    have BQ := Lib.hid (BQ.out.ext hx32)
    clear hx32
    obtain ⟨bx_0, bx_1, bx_2, bx_3, bx_4, bx_5, bx_6⟩ := BX.out.three
    obtain ⟨by_0, by_1, by_2, by_3, by_4, by_5, by_6⟩ := BY.out.three
    obtain ⟨bq_0, bq_1, bq_2, bq_3, bq_4, bq_5, bq_6⟩ := BQ.out.three
    go_upto_region 13 with fail
    go_region_held3 (fun w' => Ext w33 w' ∧ w'.cell? ⟨a12, 0, none⟩ = some (Value.bool f11) ∧ w'.cell? ⟨a12, 1, none⟩ = some (Value.slice G11 g11 j11) ∧ w'.cell? ⟨a12, 2, none⟩ = some (Value.slice Y11 y11 z11) ∧ w'.cell? ⟨a12 + 1, 0, none⟩ = some (Value.bool f12) ∧ w'.cell? ⟨a12 + 1, 1, none⟩ = some (Value.slice G12 g12 j12) ∧ w'.cell? ⟨a12 + 1, 2, none⟩ = some (Value.slice Y12 y12 z12) ∧ w'.cell? ⟨a31, 0, none⟩ = some (Value.bool f30) ∧ w'.cell? ⟨a31, 1, none⟩ = some (Value.slice G30 g30 j30) ∧ w'.cell? ⟨a31, 2, none⟩ = some (Value.slice Y30 y30 z30))
      (first | (exact ⟨(Ext.refl w33).drew, bx_0, bx_1, bx_2, by_0, by_1, by_2, bq_0, bq_1, bq_2⟩) | (exact keptS9_0 (by assumption) (by assumption)))
      (first
        | (go_at_call 22; have hchk34 := hz33; refine (HSM.out _ _ _ U8.out.arr (QX.out.arr.ext (And.left (by assumption)))).mono ?_; rintro e w35 ⟨rfl, hx34⟩; clear hz33 hchk34; clear U8; have hz34 := hx34.size)
        | (go_at_call 25; refine (HMQ.out _ _ _ (QQ.out.arr.ext (And.left (by assumption))) (QY.out.arr.ext (And.left (by assumption)))).mono ?_; rintro e w34 ⟨r33, rfl, hi33, hx33⟩; have hz33 := hx33.size; have U8 := Lib.hid hi33; obtain ⟨f33, g33, G33, j33, y33, Y33, z33, rfl⟩ := hi33.shape; clear hi33))
    all_goals go_wp2_with fail
    rename_i hS
    have hE := And.left hS
    go_ret
    exact ⟨rfl, HX.out.trans hE⟩
  · subst hP
    subst hQ
    have hsb : (sgZ r == 0) = true := by rw [hr]; rfl
    have HSM := Lib.hid (rsameR_self HPQ.out.1 HPQ.out.2 (by decide))
    clear HCD HPQ HLOW HLN
    generalize sgZ r = sg at *
    go_upto_region 11 with fail
    clear bx_0 bx_1 bx_2 bx_3 bx_4 bx_5 bx_6 by_0 by_1 by_2 by_3 by_4 by_5 by_6
    have hb31 := Blk.new w31 26 #[Value.bool f30, Value.slice G30 g30 j30, Value.slice Y30 y30 z30]
    have hx31 := (Ext.refl w31).alloc (.cells #[Value.bool f30, Value.slice G30 g30 j30, Value.slice Y30 y30 z30] 26)
    have HX := Lib.hid (HX.out.trans hx31)
    have QX := Lib.hid (QX.out.ext hx31)
    have QY := Lib.hid (QY.out.ext hx31)
    have QQ := Lib.hid (QQ.out.ext hx31)
    have BX := Lib.hid (BX.out.ext hx31)
    have BY := Lib.hid (BY.out.ext hx31)
    have BQ := Lib.hid hb31
    generalize w31.alloc (.cells #[Value.bool f30, Value.slice G30 g30 j30, Value.slice Y30 y30 z30] 26) = w32 at *
    generalize w31.heap.size = a31 at *
    clear hb31 hx31
    obtain ⟨bx_0, bx_1, bx_2, bx_3, bx_4, bx_5, bx_6⟩ := BX.out.three
    obtain ⟨by_0, by_1, by_2, by_3, by_4, by_5, by_6⟩ := BY.out.three
    obtain ⟨bq_0, bq_1, bq_2, bq_3, bq_4, bq_5, bq_6⟩ := BQ.out.three
    go_wp2_with fail
    clear bx_0 bx_1 bx_2 bx_3 bx_4 bx_5 bx_6 by_0 by_1 by_2 by_3 by_4 by_5 by_6 bq_0 bq_1 bq_2 bq_3 bq_4 bq_5 bq_6
    refine (HSG.out _ _ QY.out.arr).mono ?_
    rintro e w33 ⟨rfl, hx32⟩
    have HX := Lib.hid (HX.out.trans hx32)
    have QX := Lib.hid (QX.out.ext hx32)
    have QY := Lib.hid (QY.out.ext hx32)
    have QQ := Lib.hid (QQ.out.ext hx32)
    have BX := Lib.hid (BX.out.ext hx32)
    have BY := Lib.hid (BY.out.ext hx32)
    have BQ := Lib.hid (BQ.out.ext hx32)
    clear hx32
    obtain ⟨bx_0, bx_1, bx_2, bx_3, bx_4, bx_5, bx_6⟩ := BX.out.three
    obtain ⟨by_0, by_1, by_2, by_3, by_4, by_5, by_6⟩ := BY.out.three
    obtain ⟨bq_0, bq_1, bq_2, bq_3, bq_4, bq_5, bq_6⟩ := BQ.out.three
    go_wp2_with fail
    clear bx_0 bx_1 bx_2 bx_3 bx_4 bx_5 bx_6 by_0 by_1 by_2 by_3 by_4 by_5 by_6 bq_0 bq_1 bq_2 bq_3 bq_4 bq_5 bq_6
    refine (HSM.out _ _ _ QQ.out.arr (IsRat.zero w.heap.size _).arr).mono ?_
    rintro e w34 ⟨rfl, hx33⟩
    have HX := Lib.hid (HX.out.trans hx33)
    have QX := Lib.hid (QX.out.ext hx33)
    have QY := Lib.hid (QY.out.ext hx33)
    have QQ := Lib.hid (QQ.out.ext hx33)
    have BX := Lib.hid (BX.out.ext hx33)
    have BY := Lib.hid (BY.out.ext hx33)
    have BQ := Lib.hid (BQ.out.ext hx33)
    clear hx33
    go_wp2_with fail
    go_ret
    exact ⟨rfl, HX.out⟩
end Big
end Go.Proofs.YtplmldkfgeiklaaGreatDoor
/- The frame round a law's walk: the arguments opened; behind the call they read as they did. -/
namespace Go.Proofs.YtplmldkfgeiklaaGreatDoor
open Go.ChangeShapes Go.WideShapes Go.ChangeAt Go.RowKit

section
variable {H : Type} {enc : TypeId × Value → H} {P : Program}
theorem trodAll_stays (hl : laidOutB P = true) {W W' : World} (hb : Big.Ext W W') : ∀ (ts : List TypeId) (vs : List Value) (ds : List (DataW H)) (ps : List MemPlace),
    (∀ t ∈ ts, P.readableRec t = true ∧ t < P.types.size) → DataW.TrodAll enc P W 0 (fun _ => true) true ts vs ds ps → (∀ x ∈ ps, x.block < W.heap.size) →
    DataW.TrodAll enc P W' 0 (fun b => decide (b < W.heap.size)) true ts vs ds ps
  | [], vs, ds, ps, _, h, _ => by
    obtain ⟨rfl, rfl, rfl⟩ := trodAll_nil h
    exact trodAll_mk0
  | t :: ts, vs, ds, ps, ht, h, hlt => by
    obtain ⟨v, vs', d, ds', p, q, rfl, rfl, rfl, h1, h2⟩ := trodAll_cons h
    exact trodAll_cons_mk (Below.trod hl (ht t (by simp)).1 (ht t (by simp)).2 h1 hb (fun x hx => hlt x (List.mem_append_left _ hx)))
      (trodAll_stays hl hb ts vs' ds' q (fun t' h' => ht t' (by simp [h'])) h2 (fun x hx => hlt x (List.mem_append_right _ hx)))

/-- What the row asks of a law that returned true and left what was there. -/
theorem post_true {f : Func} {s : ChangeSpec} {W W' : World} {args : Array Value} {ds gs : List (DataW H)} {before : List MemPlace} {tb : TypeId} (hl : laidOutB P = true)
    (hts : (f.params.toList.all fun t => P.readableRec t && decide (t < P.types.size)) = true) (hv : s.vars = []) (hr : f.resultTypes = #[tb]) (htb : P.underlying tb = some .bool)
    (hW : DataW.Whole enc P f.params.toList s.vars false W args.toList ds gs before) (hfn : s.fn H ds = { results := [.lit (.bool true)], args := ds }) (hb : Big.Ext W W') :
    s.post enc P f false true false false W args (.bool true) W' := by
  have hlt := hW.lt
  have hW' := hW
  obtain ⟨p, q, hA, hV, rfl, hfz, hnd⟩ := hW
  rw [hv] at hV
  obtain ⟨rfl, rfl⟩ := trodVars_none hV
  have hfn' : s.fn H (ds ++ []) = { results := [.lit (.bool true)], args := ds } := by rw [List.append_nil]; exact hfn
  refine ⟨ds, [], p ++ [], [], p, [], hW', ?_, ?_, ?_, hb.frame _, fun h => by cases h⟩
  · rw [hfn', hr]
    exact trodAll_mk1 (shut_bool htb _)
  · rw [hfn']
    exact trodAll_stays hl hb _ _ _ _ (fun t ht => by
      have := List.all_eq_true.1 hts t ht
      simpa using this) hA (fun x hx => hlt x (by simpa using hx))
  · rw [hfn', hv]
    rfl
end

/-- A law under its row's conditions, with the form of the world at its beginning. -/
theorem handed_and_shaped {H : Type} {enc : TypeId × Value → H} {a : Assume} {C : Checked} {os : Os} {f : FuncId} {fn : Func} {s : ChangeSpec} {conds : List PathCond} {apart fresh handsOn again : Bool} {X : World → Array Value → Prop}
    (hX : ∀ (w w' : World) (args : Array Value), w.heap = w'.heap → X w args → X w' args)
    (own : ownKnob C.prog.godebug = none) (started : os.Started) (noInit : C.prog.inits.idxOf? f = none) (hfn : C.prog.funcs[f]? = some fn)
    (witness : ∃ (w : World) (tape : Tape) (i : Input), w.os = os ∧ (w.forCall tape i).Shaped C.prog ∧ i.vars = [] ∧ Input.okWide C.prog (w.forCall tape i) .any w.heap.size f i ∧
      ((s.pre enc C.prog fn conds apart (w.forCall tape i).memory i.args ∧ X (w.forCall tape i).memory i.args) ∧ sizedMet enc C.prog fn (OpenSpec.ofChange s) apart (w.forCall tape i).memory i.args) ∧ a.holds C.prog (lone (Frame.enter C.prog f i.args .normal) [] (w.forCall tape i)))
    (contract : ∀ (W : World) (base : Nat) (args : Array Value) (ds gs : List (DataW H)) (before : List MemPlace),
      (∀ (j : Nat) t v, fn.params[j]? = some t → args[j]? = some v → Value.okWide C.prog W .any base t v) →
      DataW.Whole enc C.prog fn.params.toList s.vars apart W args.toList ds gs before →
      (DataW.weightsEach C.prog (fn.params.toList ++ s.plain.varTypes C.prog) (ds ++ gs)).all (· ≤ reachBytes) = true → X W args → W.ShapedOpen C.prog →
      Calls C.prog f args W fun e W' => ∃ v, e = .returned v ∧ s.post enc C.prog fn apart fresh handsOn again W args v W') :
    ReturnsInHanded a C os f .any (fun w args => (s.pre enc C.prog fn conds apart w args ∧ X w args) ∧ sizedMet enc C.prog fn (OpenSpec.ofChange s) apart w args) (s.post enc C.prog fn apart fresh handsOn again) := by
  refine returnsInHanded_of_calls own started noInit witness ?_
  intro w tape i _ hsh _ hok hpre hholds
  obtain ⟨_, _, _, fn', hfn', _, _, _, _, hval⟩ := hok
  have e : fn' = fn := Option.some.inj (hfn'.symm.trans hfn)
  subst e
  obtain ⟨⟨⟨ds, gs, before, hw, hc⟩, hx⟩, hz⟩ := hpre
  have hw' := DataW.Whole.of_heap (w' := w.forCall tape i) (by rfl) hw
  refine (contract (w.forCall tape i) w.heap.size i.args ds gs before hval hw' (hz.weights hw) (hX _ _ _ (by rfl) hx) hsh).mono fun e W' ⟨v, he, hp⟩ => ?_
  subst he
  exact ChangeSpec.post_blind hp

theorem laid_out : laidOutB Tryz.prog = true := by kernel_rfl
theorem own : ownKnob Tryz.prog.godebug = none := by kernel_rfl

section
variable {P : Program} {W : World}
/-- One of several variables that a row lists. -/
theorem laidVars_at : ∀ (i : Nat) (l : List (String × DataW Unit)) (ps : List MemPlace) (n : String) (d : DataW Unit), DataW.LaidVars P W l ps → l[i]? = some (n, d) →
    ∃ g t cs f p, P.globalNamed n = some g ∧ (P.globals[g]?).map (·.type) = some t ∧ W.var? P n = some cs ∧ DataW.trod (fun _ => ()) P W 0 (fun _ => true) false f t cs.toList = some (d, p)
  | i, [], ps, n, d, _, hn => by simp at hn
  | 0, x :: l, ps, n, d, h, hn => by
    simp at hn
    subst hn
    obtain ⟨g, t, cs, f, p, q, h1, h2, h3, h4, _, _⟩ := h
    exact ⟨g, t, cs, f, p, h1, h2, h3, h4⟩
  | i + 1, x :: l, ps, n, d, h, hn => by
    obtain ⟨g, t, cs, f, p, q, _, _, _, _, hs, _⟩ := h
    exact laidVars_at i l q n d hs (by simpa using hn)
theorem laid_at (i : Nat) {l : List (String × DataW Unit)} {n : String} {d : DataW Unit} (h : laidMetH P l W) (hp : (l.all fun x => x.2.handleName?.isNone) = true) (hn : l[i]? = some (n, d)) :
    ∃ g t cs f p, P.globalNamed n = some g ∧ (P.globals[g]?).map (·.type) = some t ∧ W.var? P n = some cs ∧ DataW.trod (fun _ => ()) P W 0 (fun _ => true) false f t cs.toList = some (d, p) := by
  rw [MakeChecks.laidMetH_plain _ _ _ hp] at h
  obtain ⟨ps, hv, _⟩ := h
  exact laidVars_at i l ps n d hv hn
end

section
variable {H : Type} {enc : TypeId × Value → H} {W : World} {fuel : Nat} {v : Value} {y : DataW H × List MemPlace}
theorem cellsOf_u32 : Tryz.prog.cellsOf 74 = 1 := by kernel_rfl
/-- A slice of 32-bit digits that came in. -/
theorem arr_of_trod (h : DataW.trod enc Tryz.prog W 0 (fun _ => true) true fuel 22 [v] = some y) : ∃ xs, Big.Arr W v xs := by
  rcases open_ints Tryz.underlying22 Tryz.underlying74 cellsOf_u32 h with ⟨hv, _⟩ | ⟨a, len, cap, zs, hv, _, hl, hm, hz, _, hc, hw⟩
  · injection hv with hv
    subst hv
    exact ⟨[], Big.Arr.none_ W⟩
  · injection hv with hv
    subst hv
    simp only [if_true] at hz
    refine ⟨(zs.take len).map Int.toNat, ?_⟩
    have hlen : ((zs.take len).map Int.toNat).length = len := by simp; omega
    have hok : Big.Ok ((zs.take len).map Int.toNat) := fun x hx => by
      obtain ⟨n, hn, rfl⟩ := List.mem_map.1 hx
      have := bounds_u32 (hw n (List.mem_of_mem_take hn))
      omega
    have key := Big.Arr.mk (w := W) (A := some a) (c := cap) hok (by rw [hlen]; exact hl) hm (fun hp => by
      rw [hlen] at hp ⊢
      obtain ⟨b, off, rfl, hcell⟩ := ints_at hc (by omega)
      have h0 := hcell 0 (by omega)
      refine ⟨b, off, rfl, World.block_lt_of_cell? W _ h0, fun j hj => ?_⟩
      rw [hcell j (by omega)]
      have hj2 : j < zs.length := by omega
      have hb := bounds_u32 (hw zs[j] (List.getElem_mem hj2))
      have e1 : zs.getD j 0 = zs[j] := by rw [List.getD_eq_getElem?_getD, List.getElem?_eq_getElem hj2]; rfl
      have e2 : ((zs.take len).map Int.toNat).getD j 0 = zs[j].toNat := by
        rw [List.getD_eq_getElem?_getD, List.getElem?_map, List.getElem?_take_of_lt hj, List.getElem?_eq_getElem hj2]; rfl
      rw [e1, e2]
      unfold Big.d32
      rw [Int.toNat_of_nonneg hb.1])
    rw [hlen] at key
    exact key
theorem bool_of_trod (h : DataW.trod enc Tryz.prog W 0 (fun _ => true) true fuel 4 [v] = some y) : ∃ b, v = .bool b := by
  obtain ⟨b, hb, _⟩ := DataW.trod_bool Tryz.underlying4 h
  injection hb with hb
  exact ⟨b, hb⟩
end
section
variable {H : Type} {enc : TypeId × Value → H} {W : World} {v : Value} {d : DataW H} {p : List MemPlace} {r : Reach} {b0 : Nat}
set_option maxRecDepth 100000 in
theorem open_u32s (hv : Value.okWide Tryz.prog W r b0 22 v) (h : DataW.Trod enc Tryz.prog W 0 (fun _ => true) true 22 v d p) : ∃ xs, Big.Arr W v xs := by
  obtain ⟨a, len, cap, rfl⟩ := okWide_slice Tryz.underlying22 hv
  obtain ⟨fuel, hf⟩ := h
  obtain ⟨xs, hxs⟩ := arr_of_trod (by simpa [Value.cells] using hf)
  exact ⟨xs, hxs⟩
end
theorem byte_of_wf {z : Int} (w : (Lit.int .u8 z).wf = true) : ∃ d : UInt8, z = (d.toNat : Int) := by
  have h := bounds_u8 w
  refine ⟨UInt8.ofNat z.toNat, ?_⟩
  have e : (UInt8.ofNat z.toNat).toNat = z.toNat % 2 ^ 8 := UInt8.toNat_ofNat'
  rw [e, Nat.mod_eq_of_lt (by omega)]
  omega
theorem u64_of_wf {z : Int} (w : (Lit.int .u64 z).wf = true) : ∃ n : Nat, n < 18446744073709551616 ∧ z = (n : Int) := by
  have h := bounds_u64 w
  exact ⟨z.toNat, by omega, by omega⟩
theorem str_of_bytes {s : ByteArray} (h : s.size ≤ maxLen) : ∃ l : List UInt8, l.length ≤ maxLen ∧ s = ⟨l.toArray⟩ := by
  refine ⟨s.data.toList, by simpa using h, ?_⟩
  apply ByteArray.ext
  simp
end Go.Proofs.YtplmldkfgeiklaaGreatDoor
/- What the condition on the table of lowest bits gives the walks. -/
namespace Go.Proofs.YtplmldkfgeiklaaGreatDoor
open Go.ChangeShapes Go.WideShapes Go.ChangeAt Go.RowKit
theorem g32 : Tryz.prog.globalNamed "math/bits.deBruijn32tab" = some 0 := by kernel_rfl
theorem t32 : (Tryz.prog.globals[0]?).map (·.type) = some 135 := by kernel_rfl
theorem cells32 : Tryz.prog.cellsOf 135 = 32 := by kernel_rfl
theorem cells8b : Tryz.prog.cellsOf 5 = 1 := by kernel_rfl
def tab32 : List Int := [0, 1, 28, 2, 29, 14, 24, 3, 30, 22, 20, 15, 25, 17, 4, 8, 31, 27, 13, 23, 21, 19, 16, 7, 26, 12, 18, 6, 11, 5, 10, 9]
theorem tab32_get : ∀ i : Fin 32, (tab32.map (fun z => Value.int .u8 z))[i.val]? = some (.int .u8 ((Big.tzTab.getD i.val 0 : Nat) : Int)) := by
  intro ⟨i, hi⟩
  have : i = 0 ∨ i = 1 ∨ i = 2 ∨ i = 3 ∨ i = 4 ∨ i = 5 ∨ i = 6 ∨ i = 7 ∨ i = 8 ∨ i = 9 ∨ i = 10 ∨ i = 11 ∨ i = 12 ∨ i = 13 ∨ i = 14 ∨ i = 15 ∨ i = 16 ∨ i = 17 ∨ i = 18 ∨ i = 19 ∨ i = 20 ∨ i = 21 ∨ i = 22 ∨ i = 23 ∨ i = 24 ∨ i = 25 ∨ i = 26 ∨ i = 27 ∨ i = 28 ∨ i = 29 ∨ i = 30 ∨ i = 31 := by omega
  rcases this with rfl | rfl | rfl | rfl | rfl | rfl | rfl | rfl | rfl | rfl | rfl | rfl | rfl | rfl | rfl | rfl | rfl | rfl | rfl | rfl | rfl | rfl | rfl | rfl | rfl | rfl | rfl | rfl | rfl | rfl | rfl | rfl <;> rfl
theorem tab32_of_laid {W : World} {l : List (String × DataW Unit)} (i : Nat) (h : laidMetH Tryz.prog l W) (hp : (l.all fun x => x.2.handleName?.isNone) = true) (hn : l[i]? = some ("math/bits.deBruijn32tab", Rows.laid_math_bits_deBruijn32tab)) : Big.Tab32 W := by
  obtain ⟨g1, t1, cs1, f1, p1, hg1, ht1, hv1, hd1⟩ := laid_at i h hp hn
  obtain rfl := Option.some.inj (g32.symm.trans hg1)
  obtain rfl := Option.some.inj (t32.symm.trans ht1)
  have hcs := Lib.cells_of_tab (zs := tab32) (k := .u8) Tryz.underlying135 Tryz.underlying5 cells8b cells32 (show DataW.trod _ Tryz.prog W 0 _ false f1 135 cs1.toList = some (Lib.tabData .u8 tab32, p1) from hd1)
  have key : ∀ j, j < 32 → W.cell? ⟨0, j, none⟩ = some (.int .u8 ((Big.tzTab.getD j 0 : Nat) : Int)) := by
    intro j hj
    have hc := World.var?_cell hg1 hv1 j
    have h15 : cs1[j]? = some (.int .u8 ((Big.tzTab.getD j 0 : Nat) : Int)) := by
      rw [← Array.getElem?_toList, hcs]
      exact tab32_get ⟨j, hj⟩
    rw [h15] at hc
    exact hc
  exact ⟨key, World.block_lt_of_cell? W _ (key 0 (by decide))⟩
end Go.Proofs.YtplmldkfgeiklaaGreatDoor
/- An integer of the program's own type that came in. -/
namespace Go.Proofs.YtplmldkfgeiklaaGreatDoor
open Go.ChangeShapes Go.WideShapes Go.ChangeAt Go.RowKit
theorem cellsInt : Tryz.prog.cellsOf 24 = 2 := by kernel_rfl
section
variable {H : Type} {enc : TypeId × Value → H} {W : World} {v : Value} {d : DataW H} {p : List MemPlace} {r : Reach} {b0 : Nat}
set_option maxRecDepth 100000 in
theorem open_Int (hv : Value.okWide Tryz.prog W r b0 24 v) (h : DataW.Trod enc Tryz.prog W 0 (fun _ => true) true 24 v d p) : ∃ neg m xs, v = .agg #[.bool neg, m] ∧ Big.Arr W m xs := by
  have key := fun ho => Joins.open_agg2 Tryz.underlying24 ho cellsInt hv h
  obtain ⟨v0, v1, y0, y1, n, rfl, _, _, h0, h1⟩ := key (by kernel_rfl)
  obtain ⟨b, rfl⟩ := bool_of_trod h0
  obtain ⟨xs, hxs⟩ := arr_of_trod h1
  exact ⟨b, v1, xs, rfl, hxs⟩
end
end Go.Proofs.YtplmldkfgeiklaaGreatDoor
