import Derived.Test.YtoehdoghghpmjaaGreatDoorM16
import Derived.Test.YtoehdoghghpmjaaGreatDoorM21
import Derived.Test.YtoehdoghghpmjaaGreatDoorM18
import Derived.Test.YtoehdoghghpmjaaGreatDoorM19
import Derived.Test.YtoehdoghghpmjaaGreatDoorM30
import Derived.Deep.CutBlock
import Derived.Test.YtoehdoghghpmjaaGreatDoorM14
/- mill.Short. -/
namespace Go.Proofs.YtoehdoghghpmjaaGreatDoor
namespace Big
open Go.RowKit
def shortC (c : Cmd) : Bool := decide (c.name.length ≤ 60) && decide (c.other.length ≤ 60) && decide (c.text.length ≤ 450)
set_option maxRecDepth 100000 in
theorem short_any (w : World) (c : Cmd) :
    Calls Tryz.prog 14 #[cmdV c] w fun e w' => e = .returned (.bool (shortC c)) ∧ Ext w w' := by
  obtain ⟨op, nm, ot, tx, n⟩ := c
  have HX := Lib.hid ((Ext.refl w).alloc (.cells #[.int .i64 op, str nm, str ot, str tx, .int .i64 n] 31))
  have hb := Blk.new w 31 #[.int .i64 op, str nm, str ot, str tx, .int .i64 n]
  have c1 : (w.alloc (.cells #[.int .i64 op, str nm, str ot, str tx, .int .i64 n] 31)).cell? ⟨w.heap.size, 1, none⟩ = some (str nm) := hb.cell 1
  have c2 : (w.alloc (.cells #[.int .i64 op, str nm, str ot, str tx, .int .i64 n] 31)).cell? ⟨w.heap.size, 2, none⟩ = some (str ot) := hb.cell 2
  have c3 : (w.alloc (.cells #[.int .i64 op, str nm, str ot, str tx, .int .i64 n] 31)).cell? ⟨w.heap.size, 3, none⟩ = some (str tx) := hb.cell 3
  clear hb
  have HV : Hid (shortC ⟨op, nm, ot, tx, n⟩ = (decide (nm.length ≤ 60) && decide (ot.length ≤ 60) && decide (tx.length ≤ 450))) := Lib.hid rfl
  unfold cmdV
  simp only
  by_cases h1 : nm.length ≤ 60
  · by_cases h2 : ot.length ≤ 60
    · have e1 : decide ((nm.length : Int) ≤ 60) = true := decide_eq_true (by omega)
      have e2 : decide ((ot.length : Int) ≤ 60) = true := decide_eq_true (by omega)
      have e3 : decide ((tx.length : Int) ≤ 450) = decide (tx.length ≤ 450) := by rw [Bool.eq_iff_iff]; simp only [decide_eq_true_eq]; omega
      have HR : Hid (shortC ⟨op, nm, ot, tx, n⟩ = decide (tx.length ≤ 450)) := Lib.hid (by rw [HV.out, decide_eq_true h1, decide_eq_true h2]; rfl)
      have H3 := Lib.hid e3
      clear h1 h2 e3 HV
      go_enter Tryz.func14, Tryz.ntmps14
      go_wp2_with fail
      go_ret
      refine ⟨?_, HX.out⟩
      rw [HR.out, ← H3.out]
      rfl
    · have e1 : decide ((nm.length : Int) ≤ 60) = true := decide_eq_true (by omega)
      have e2 : decide ((ot.length : Int) ≤ 60) = false := decide_eq_false (by omega)
      have HR : Hid (shortC ⟨op, nm, ot, tx, n⟩ = false) := Lib.hid (by rw [HV.out, decide_eq_true h1, decide_eq_false h2]; rfl)
      clear h1 h2 HV
      go_enter Tryz.func14, Tryz.ntmps14
      go_wp2_with fail
      go_ret
      exact ⟨by rw [HR.out]; rfl, HX.out⟩
  · have e1 : decide ((nm.length : Int) ≤ 60) = false := decide_eq_false (by omega)
    have HR : Hid (shortC ⟨op, nm, ot, tx, n⟩ = false) := Lib.hid (by rw [HV.out, decide_eq_false h1]; rfl)
    clear h1 HV
    go_enter Tryz.func14, Tryz.ntmps14
    go_wp2_with fail
    go_ret
    exact ⟨by rw [HR.out]; rfl, HX.out⟩
end Big
end Go.Proofs.YtoehdoghghpmjaaGreatDoor
/- awake of chapter 31, CommandNames. -/
namespace Go.Proofs.YtoehdoghghpmjaaGreatDoor
namespace Big
open Go.RowKit
theorem line_1 : lineC [108, 101, 116, 32, 120, 32, 61, 32, 49, 32, 43, 32, 121] = (some ⟨1, [120], [], [49, 32, 43, 32, 121], 0⟩, 0) := by kernel_rfl
theorem line_2 : lineC [32, 32, 101, 118, 97, 108, 32, 120, 32, 50, 48, 32] = (some ⟨3, [120], [], [], 20⟩, 0) := by kernel_rfl
theorem line_3 : lineC [101, 118, 97, 108, 32, 120, 32, 48, 50, 48] = (none, 6) := by kernel_rfl
set_option maxHeartbeats 1000000 in
set_option maxRecDepth 100000 in
theorem awake31_any (w : World) (hm : MaxV w) (hE : CmdEnv w) : Calls Tryz.prog 6 #[] w fun e w' => e = .returned (.bool true) ∧ Ext w w' := by
  have H1 : Hid (Calls Tryz.prog 12 #[.string ⟨#[108, 101, 116, 32, 120, 32, 61, 32, 49, 32, 43, 32, 121]⟩] w fun e w' => e = .returned (.tuple #[.agg #[.int .i64 1, .string ⟨#[120]⟩, .string ⟨#[]⟩, .string ⟨#[49, 32, 43, 32, 121]⟩, .int .i64 0], .int .i64 0]) ∧ Ext w w') := Lib.hid (by
    have h := cparse_any w [108, 101, 116, 32, 120, 32, 61, 32, 49, 32, 43, 32, 121] (by simp) hm hE
    rw [line_1] at h
    exact h)
  have H2 : Hid (∀ W, Ext w W → Calls Tryz.prog 12 #[.string ⟨#[32, 32, 101, 118, 97, 108, 32, 120, 32, 50, 48, 32]⟩] W fun e w' => e = .returned (.tuple #[.agg #[.int .i64 3, .string ⟨#[120]⟩, .string ⟨#[]⟩, .string ⟨#[]⟩, .int .i64 20], .int .i64 0]) ∧ Ext W w') := Lib.hid (fun W hx => by
    have h := cparse_any W [32, 32, 101, 118, 97, 108, 32, 120, 32, 50, 48, 32] (by simp) (hm.ext hx) (hE.ext hx)
    rw [line_2] at h
    exact h)
  have H3 : Hid (∀ W, Ext w W → Calls Tryz.prog 12 #[.string ⟨#[101, 118, 97, 108, 32, 120, 32, 48, 50, 48]⟩] W fun e w' => e = .returned (.tuple #[.agg #[.int .i64 0, .string ⟨#[]⟩, .string ⟨#[]⟩, .string ⟨#[]⟩, .int .i64 0], .int .i64 6]) ∧ Ext W w') := Lib.hid (fun W hx => by
    have h := cparse_any W [101, 118, 97, 108, 32, 120, 32, 48, 50, 48] (by simp) (hm.ext hx) (hE.ext hx)
    rw [line_3] at h
    exact h)
  clear hm hE
  go_enter Tryz.func6, Tryz.ntmps6
  go_wp2_with fail
  refine H1.out.mono ?_
  rintro e w1 ⟨rfl, hx1⟩
  have HX1 := Lib.hid hx1
  clear hx1
  have HB1 := Lib.hid (Blk.new w1 31 #[.int .i64 1, .string ⟨#[120]⟩, .string ⟨#[]⟩, .string ⟨#[49, 32, 43, 32, 121]⟩, .int .i64 0])
  have HX2 := Lib.hid (HX1.out.alloc (.cells #[.int .i64 1, .string ⟨#[120]⟩, .string ⟨#[]⟩, .string ⟨#[49, 32, 43, 32, 121]⟩, .int .i64 0] 31))
  go_wp2_with fail
  generalize w1.alloc (.cells #[.int .i64 1, .string ⟨#[120]⟩, .string ⟨#[]⟩, .string ⟨#[49, 32, 43, 32, 121]⟩, .int .i64 0] 31) = w2 at *
  generalize w1.heap.size = g1 at *
  refine (H2.out _ HX2.out).mono ?_
  rintro e w3 ⟨rfl, hx3⟩
  have HB3 := Lib.hid (HB1.out.ext hx3)
  have HX3 := Lib.hid (HX2.out.trans hx3)
  clear hx3
  have HC3 := Lib.hid (Blk.new w3 31 #[.int .i64 3, .string ⟨#[120]⟩, .string ⟨#[]⟩, .string ⟨#[]⟩, .int .i64 20])
  have HX4 := Lib.hid (HX3.out.alloc (.cells #[.int .i64 3, .string ⟨#[120]⟩, .string ⟨#[]⟩, .string ⟨#[]⟩, .int .i64 20] 31))
  have HB4 := Lib.hid (HB3.out.alloc (.cells #[.int .i64 3, .string ⟨#[120]⟩, .string ⟨#[]⟩, .string ⟨#[]⟩, .int .i64 20] 31))
  go_wp2_with fail
  generalize w3.alloc (.cells #[.int .i64 3, .string ⟨#[120]⟩, .string ⟨#[]⟩, .string ⟨#[]⟩, .int .i64 20] 31) = w4 at *
  generalize w3.heap.size = g3 at *
  refine (H3.out _ HX4.out).mono ?_
  rintro e w5 ⟨rfl, hx5⟩
  have HX5 := Lib.hid (HX4.out.trans hx5)
  have hb := HB4.out.ext hx5
  have hc := HC3.out.ext hx5
  have b0 := hb.cell 0
  have b1 := hb.cell 1
  have b2 := hb.cell 2
  have b3 := hb.cell 3
  have b4 := hb.cell 4
  have bz := hb.lt
  have c0 := hc.cell 0
  have c1 := hc.cell 1
  have c2 := hc.cell 2
  have c3 := hc.cell 3
  have c4 := hc.cell 4
  have cz := hc.lt
  clear hx5 hb hc
  go_wp2_with fail
  go_ret
  exact ⟨rfl, HX5.out.alloc _⟩
end Big
end Go.Proofs.YtoehdoghghpmjaaGreatDoor
/- CommandFormats. -/
namespace Go.Proofs.YtoehdoghghpmjaaGreatDoor
namespace Big
open Go.RowKit
def cellsC (c : Cmd) : List Value := [.int .i64 c.op, str c.name, str c.other, str c.text, .int .i64 c.n]
def SmallC (c : Cmd) : Prop := c.name.length ≤ 100000 ∧ c.other.length ≤ 100000 ∧ c.text.length ≤ 100000
/-- A row of commands. -/
def CmdsAt (w : World) (g : Nat) (cs : List Cmd) : Prop := g < w.heap.size ∧ ∀ (k : Nat) (hk : k < cs.length), w.cell? ⟨g, k * 5, none⟩ = some (.int .i64 cs[k].op) ∧ w.cell? ⟨g, k * 5 + 1, none⟩ = some (str cs[k].name) ∧ w.cell? ⟨g, k * 5 + 2, none⟩ = some (str cs[k].other) ∧ w.cell? ⟨g, k * 5 + 3, none⟩ = some (str cs[k].text) ∧ w.cell? ⟨g, k * 5 + 4, none⟩ = some (.int .i64 cs[k].n)
theorem CmdsAt.ext {w w' : World} {g : Nat} {cs : List Cmd} (h : CmdsAt w g cs) (hx : Ext w w') : CmdsAt w' g cs :=
  ⟨Nat.lt_of_lt_of_le h.1 hx.size, fun k hk => ⟨(hx.cell h.1).trans (h.2 k hk).1, (hx.cell h.1).trans (h.2 k hk).2.1, (hx.cell h.1).trans (h.2 k hk).2.2.1, (hx.cell h.1).trans (h.2 k hk).2.2.2.1, (hx.cell h.1).trans (h.2 k hk).2.2.2.2⟩⟩
theorem cmds_three {w : World} {g : Nat} {t : TypeId} {a b c : Cmd} (h : Blk w g t #[.int .i64 a.op, str a.name, str a.other, str a.text, .int .i64 a.n, .int .i64 b.op, str b.name, str b.other, str b.text, .int .i64 b.n, .int .i64 c.op, str c.name, str c.other, str c.text, .int .i64 c.n]) : CmdsAt w g [a, b, c] := by
  refine ⟨h.lt, fun k hk => ?_⟩
  have hk2 : k = 0 ∨ k = 1 ∨ k = 2 := by simp at hk; omega
  rcases hk2 with rfl | rfl | rfl
  · exact ⟨h.cell 0, h.cell 1, h.cell 2, h.cell 3, h.cell 4⟩
  · exact ⟨h.cell 5, h.cell 6, h.cell 7, h.cell 8, h.cell 9⟩
  · exact ⟨h.cell 10, h.cell 11, h.cell 12, h.cell 13, h.cell 14⟩
theorem cmds_two {w : World} {g : Nat} {t : TypeId} {a b : Cmd} (h : Blk w g t #[.int .i64 a.op, str a.name, str a.other, str a.text, .int .i64 a.n, .int .i64 b.op, str b.name, str b.other, str b.text, .int .i64 b.n]) : CmdsAt w g [a, b] := by
  refine ⟨h.lt, fun k hk => ?_⟩
  have hk2 : k = 0 ∨ k = 1 := by simp at hk; omega
  rcases hk2 with rfl | rfl
  · exact ⟨h.cell 0, h.cell 1, h.cell 2, h.cell 3, h.cell 4⟩
  · exact ⟨h.cell 5, h.cell 6, h.cell 7, h.cell 8, h.cell 9⟩
set_option maxHeartbeats 8000000 in
set_option maxRecDepth 100000 in
theorem commandFormats_any (w : World) (c : Cmd) (v : Value) (l : List Int) (fd by_ : Int) (xt : List UInt8) (h : ArrI w v l) (hf1 : -9223372036854775808 ≤ fd) (hf2 : fd ≤ 9223372036854775807) (hm : MaxV w) (hE : CmdEnv w) :
    Calls Tryz.prog 4 #[cmdV c, v, .int .i64 fd, .int .i64 by_, str xt] w fun e w' => e = .returned (.bool true) ∧ Ext w w' := by
  have HAW := Lib.hid (fun W hx => awake31_any W (hm.ext (w' := W) hx) (hE.ext hx))
  have HE := Lib.hid hE
  have HL := Lib.hid h
  have HLT := Lib.hid (fun W hx => light_any W v l (HL.out.ext hx))
  have HSH := Lib.hid (fun W => short_any W c)
  have HMF := Lib.hid (fun W => mod_any W fd 5 hf1 hf2 (by decide) (by decide))
  have hq1 := Int.emod_nonneg fd (show (5 : Int) ≠ 0 by decide)
  have hq2 := Int.emod_lt_of_pos fd (show (0 : Int) < 5 by decide)
  generalize fd % 5 = q at *
  have HQ := Lib.hid (And.intro hq1 hq2)
  obtain ⟨A0, c0, rfl, _⟩ := h.open
  have HSC : Hid (shortC c = true → SmallC c) := Lib.hid (fun hs => by
    unfold shortC at hs
    simp only [Bool.and_eq_true, decide_eq_true_eq] at hs
    exact ⟨by omega, by omega, by omega⟩)
  have HBB := Lib.hid (Blk.new w 31 #[.int .i64 c.op, str c.name, str c.other, str c.text, .int .i64 c.n])
  have HXB := Lib.hid ((Ext.refl w).alloc (.cells #[.int .i64 c.op, str c.name, str c.other, str c.text, .int .i64 c.n] 31))
  clear h hm hE hq1 hq2
  unfold cmdV at HSH ⊢
  generalize hsh : shortC c = sh at *
  go_enter Tryz.func4, Tryz.ntmps4
  go_upto_region 1 with fail
  have hgb0 : w.heap.size ≤ w.heap.size := Nat.le_refl _
  generalize w.alloc (.cells #[.int .i64 c.op, str c.name, str c.other, str c.text, .int .i64 c.n] 31) = wb at *
  obtain ⟨gb, hgb⟩ : ∃ gb, gb = w.heap.size := ⟨_, rfl⟩
  rw [← hgb] at HBB ⊢
  have HGB : Hid (w.heap.size ≤ gb) := Lib.hid (by omega)
  clear hgb hgb0
  go_wp2_with fail
  refine (HAW.out _ HXB.out).mono ?_
  rintro e w1 ⟨rfl, hx1⟩
  have HX1 := Lib.hid (HXB.out.trans hx1)
  have HB1 := Lib.hid (HBB.out.ext hx1)
  clear hx1 HXB HBB
  have r0 := HB1.out.cell 0
  have r1 := HB1.out.cell 1
  have r2 := HB1.out.cell 2
  have r3 := HB1.out.cell 3
  have r4 := HB1.out.cell 4
  go_wp2_with fail
  refine (HSH.out _).mono ?_
  rintro e w2 ⟨rfl, hx2⟩
  have HX2 := Lib.hid (HX1.out.trans hx2)
  have HB2 := Lib.hid (HB1.out.ext hx2)
  clear hx2 HX1 HB1 r0 r1 r2 r3 r4
  cases sh
  · go_wp2_with fail
    go_ret
    exact ⟨rfl, HX2.out⟩
  have HSM := Lib.hid (HSC.out rfl)
  clear HSC
  by_cases hlt : 120 < l.length
  · have hd : decide (l.length ≤ 120) = false := decide_eq_false (by omega)
    rw [hd] at HLT
    clear hlt hd
    go_wp2_with fail
    refine (HLT.out _ HX2.out).mono ?_
    rintro e w3 ⟨rfl, rfl⟩
    go_wp2_with fail
    go_ret
    exact ⟨rfl, HX2.out⟩
  have hd : decide (l.length ≤ 120) = true := decide_eq_true (by omega)
  rw [hd] at HLT
  have hll : l.length ≤ 120 := by omega
  clear hlt hd
  have hxl : (450 : Int) < (xt.length : Int) ∨ ¬ (450 : Int) < (xt.length : Int) := by omega
  rcases hxl with hxl | hxl
  · go_wp2_with fail
    refine (HLT.out _ HX2.out).mono ?_
    rintro e w3 ⟨rfl, rfl⟩
    go_wp2_with fail
    go_ret
    exact ⟨rfl, HX2.out⟩
  go_wp2_with fail
  refine (HLT.out _ HX2.out).mono ?_
  rintro e w3 ⟨rfl, rfl⟩
  go_wp2_with fail
  have HXT : Hid (xt.length ≤ 450) := Lib.hid (by omega)
  refine (new_any _ _ l (HL.out.ext HX2.out) (by omega)).mono ?_
  rintro e w3 ⟨rfl, ht3, hx3, hs3⟩
  rw [← hs3] at ht3
  have HX3 := Lib.hid (HX2.out.trans hx3)
  have HB3 := Lib.hid (HB2.out.ext hx3)
  have HLTB : Hid (gb < w2.heap.size) := Lib.hid HB2.out.lt
  have HG3 : Hid (w.heap.size ≤ w2.heap.size ∧ w.heap.size ≤ w3.heap.size) := Lib.hid ⟨HX2.out.size, HX3.out.size⟩
  have HCM := Lib.hid (command_any w3 w2.heap.size _ l 0 600 ht3 (by decide) (by decide))
  generalize w2.heap.size = g at *
  clear ht3 hx3 hs3 hxl HLT hll HX2 HB2
  go_wp2_with fail
  refine HCM.out.mono ?_
  rintro e w4 ⟨cc, a4, rfl, l1, l2, l3, _, hk4⟩
  have HX4 := Lib.hid (hk4.to_ext HX3.out HG3.out.2 HG3.out.1)
  have HB4 : Hid (Blk w4 gb 31 #[.int .i64 c.op, str c.name, str c.other, str c.text, .int .i64 c.n]) := Lib.hid (hk4.blk HB3.out HB3.out.lt (by have := HLTB.out; omega))
  have HSC : Hid (SmallC cc) := Lib.hid ⟨by omega, by omega, by omega⟩
  clear l1 l2 l3 hk4 HX3 HB3 HG3 HCM HLTB
  unfold cmdV
  have HC5 := Lib.hid (Blk.new w4 31 #[.int .i64 cc.op, str cc.name, str cc.other, str cc.text, .int .i64 cc.n])
  have HX5 := Lib.hid ((Ext.refl w4).alloc (.cells #[.int .i64 cc.op, str cc.name, str cc.other, str cc.text, .int .i64 cc.n] 31))
  have HD5 := Lib.hid (Blk.new (w4.alloc (.cells #[.int .i64 cc.op, str cc.name, str cc.other, str cc.text, .int .i64 cc.n] 31)) 31 #[.int .i64 cc.op, str cc.name, str cc.other, str cc.text, .int .i64 cc.n])
  have HX6 := Lib.hid ((Ext.refl (w4.alloc (.cells #[.int .i64 cc.op, str cc.name, str cc.other, str cc.text, .int .i64 cc.n] 31))).alloc (.cells #[.int .i64 cc.op, str cc.name, str cc.other, str cc.text, .int .i64 cc.n] 31))
  have hgd : (w4.alloc (.cells #[.int .i64 cc.op, str cc.name, str cc.other, str cc.text, .int .i64 cc.n] 31)).heap.size = w4.heap.size + 1 := by simp
  have HGD : Hid ((w4.alloc (.cells #[.int .i64 cc.op, str cc.name, str cc.other, str cc.text, .int .i64 cc.n] 31)).heap.size ≤ w4.heap.size + 1) := Lib.hid (by rw [hgd]; exact Nat.le_refl _)
  rw [hgd] at HD5
  clear hgd
  go_upto_region 7 with fail
  generalize (w4.alloc (.cells #[.int .i64 cc.op, str cc.name, str cc.other, str cc.text, .int .i64 cc.n] 31)).alloc (.cells #[.int .i64 cc.op, str cc.name, str cc.other, str cc.text, .int .i64 cc.n] 31) = w6 at *
  generalize w4.alloc (.cells #[.int .i64 cc.op, str cc.name, str cc.other, str cc.text, .int .i64 cc.n] 31) = w5 at *
  generalize w4.heap.size + 1 = gd at *
  generalize w4.heap.size = gc at *
  have HB5 := Lib.hid (HB4.out.ext HX5.out)
  have HXW5 := Lib.hid (HX4.out.trans HX5.out)
  clear HX5 HB4 HX4
  obtain ⟨tb, htb⟩ : ∃ tb, str xt = .string tb := ⟨_, rfl⟩
  have HTB := Lib.hid htb
  rw [htb]
  clear htb
  go_wp2_with fail
  refine (HMF.out _).mono ?_
  rintro e w7 ⟨rfl, rfl⟩
  go_upto_block 0 with fail
  go_cut [] from 36 to 53 (fun wx => ∃ d : Cmd, SmallC d ∧ Blk wx gd 31 #[.int .i64 d.op, str d.name, str d.other, str d.text, .int .i64 d.n] ∧ Ext w5 wx)
  case first =>
    have d0 := HD5.out.cell 0
    have d1 := HD5.out.cell 1
    have d2 := HD5.out.cell 2
    have d3 := HD5.out.cell 3
    have d4 := HD5.out.cell 4
    have f0 := HD5.out.frozen 0
    have f1 := HD5.out.frozen 1
    have f2 := HD5.out.frozen 2
    have f3 := HD5.out.frozen 3
    have f4 := HD5.out.frozen 4
    have dz := HD5.out.lt
    have hq := HQ.out
    have key : q = 0 ∨ q = 1 ∨ q = 2 ∨ q = 3 ∨ q = 4 := by omega
    clear hq HQ
    rcases key with rfl | rfl | rfl | rfl | rfl
    · go_wp2_with fail
      go_meet
      exact ⟨⟨by_, cc.name, cc.other, cc.text, cc.n⟩, HSC.out, HD5.out.set_ 0 (.int .i64 by_), HX6.out.setCell (p := ⟨gd, 0, none⟩) HGD.out _⟩
    · go_wp2_with fail
      go_meet
      exact ⟨⟨cc.op, xt, cc.other, cc.text, cc.n⟩, ⟨by have := HXT.out; simp only; omega, HSC.out.2⟩, by rw [← HTB.out] ; exact HD5.out.set_ 1 (str xt), HX6.out.setCell (p := ⟨gd, 1, none⟩) HGD.out _⟩
    · go_wp2_with fail
      go_meet
      exact ⟨⟨cc.op, cc.name, xt, cc.text, cc.n⟩, ⟨HSC.out.1, by have := HXT.out; simp only; omega, HSC.out.2.2⟩, by rw [← HTB.out] ; exact HD5.out.set_ 2 (str xt), HX6.out.setCell (p := ⟨gd, 2, none⟩) HGD.out _⟩
    · go_wp2_with fail
      go_meet
      exact ⟨⟨cc.op, cc.name, cc.other, xt, cc.n⟩, ⟨HSC.out.1, HSC.out.2.1, by have := HXT.out; simp only; omega⟩, by rw [← HTB.out] ; exact HD5.out.set_ 3 (str xt), HX6.out.setCell (p := ⟨gd, 3, none⟩) HGD.out _⟩
    · go_wp2_with fail
      go_meet
      exact ⟨⟨cc.op, cc.name, cc.other, cc.text, by_⟩, HSC.out, HD5.out.set_ 4 (.int .i64 by_), HX6.out.setCell (p := ⟨gd, 4, none⟩) HGD.out _⟩
  case rest =>
  obtain ⟨d, hsd, hbd, hxw⟩ := hcut
  have HSD := Lib.hid hsd
  have HD := Lib.hid hbd
  have HC := Lib.hid (HC5.out.ext hxw)
  have HB := Lib.hid (HB5.out.ext hxw)
  have HX := Lib.hid (HXW5.out.trans hxw)
  clear hsd hbd hxw HD5 HC5 HB5 HXW5 HX6 HGD HMF HQ HXT
  generalize wc = w8 at *
  have b0 := HB.out.cell 0
  have b1 := HB.out.cell 1
  have b2 := HB.out.cell 2
  have b3 := HB.out.cell 3
  have b4 := HB.out.cell 4
  have c0 := HC.out.cell 0
  have c1 := HC.out.cell 1
  have c2 := HC.out.cell 2
  have c3 := HC.out.cell 3
  have c4 := HC.out.cell 4
  have d0 := HD.out.cell 0
  have d1 := HD.out.cell 1
  have d2 := HD.out.cell 2
  have d3 := HD.out.cell 3
  have d4 := HD.out.cell 4
  have HS := Lib.hid (cmds_three (Blk.new w8 31 #[.int .i64 c.op, str c.name, str c.other, str c.text, .int .i64 c.n, .int .i64 cc.op, str cc.name, str cc.other, str cc.text, .int .i64 cc.n, .int .i64 d.op, str d.name, str d.other, str d.text, .int .i64 d.n]))
  have HXS := Lib.hid (HX.out.alloc (.cells #[.int .i64 c.op, str c.name, str c.other, str c.text, .int .i64 c.n, .int .i64 cc.op, str cc.name, str cc.other, str cc.text, .int .i64 cc.n, .int .i64 d.op, str d.name, str d.other, str d.text, .int .i64 d.n] 31))
  have HALL : Hid (∀ x ∈ [c, cc, d], SmallC x) := Lib.hid (by
    intro x hx
    simp only [List.mem_cons, List.not_mem_nil, or_false] at hx
    rcases hx with rfl | rfl | rfl
    · exact HSM.out
    · exact HSC.out
    · exact HSD.out)
  obtain ⟨x1, hx1⟩ : ∃ t, str c.name = .string t := ⟨_, rfl⟩
  obtain ⟨x2, hx2⟩ : ∃ t, str c.other = .string t := ⟨_, rfl⟩
  obtain ⟨x3, hx3⟩ : ∃ t, str c.text = .string t := ⟨_, rfl⟩
  obtain ⟨y1, hy1⟩ : ∃ t, str cc.name = .string t := ⟨_, rfl⟩
  obtain ⟨y2, hy2⟩ : ∃ t, str cc.other = .string t := ⟨_, rfl⟩
  obtain ⟨y3, hy3⟩ : ∃ t, str cc.text = .string t := ⟨_, rfl⟩
  obtain ⟨z1, hz1⟩ : ∃ t, str d.name = .string t := ⟨_, rfl⟩
  obtain ⟨z2, hz2⟩ : ∃ t, str d.other = .string t := ⟨_, rfl⟩
  obtain ⟨z3, hz3⟩ : ∃ t, str d.text = .string t := ⟨_, rfl⟩
  simp only [hx1, hx2, hx3, hy1, hy2, hy3, hz1, hz2, hz3] at b1 b2 b3 c1 c2 c3 d1 d2 d3 HS HXS ⊢
  clear hx1 hx2 hx3 hy1 hy2 hy3 hz1 hz2 hz3
  go_wp2_with fail
  generalize w8.alloc (.cells #[.int .i64 c.op, .string x1, .string x2, .string x3, .int .i64 c.n, .int .i64 cc.op, .string y1, .string y2, .string y3, .int .i64 cc.n, .int .i64 d.op, .string z1, .string z2, .string z3, .int .i64 d.n] 31) = wy at *
  generalize w8.heap.size = gs at *
  obtain ⟨cs, hcs⟩ : ∃ cs, cs = [c, cc, d] := ⟨_, rfl⟩
  rw [← hcs] at HS HALL
  have hc3 : cs.length = 3 := by rw [hcs]; rfl
  clear hcs b0 b1 b2 b3 b4 c0 c1 c2 c3 c4 d0 d1 d2 d3 d4
  go_loopw [59] (fun s59 wq => ∃ i : Nat, i ≤ 3 ∧ s59 = .int .i64 (i : Int) ∧ Ext wy wq) (fun s59 _ => 3 - (intOf s59).toNat)
  case atStart => exact ⟨0, by omega, rfl, Ext.refl _⟩
  case round =>
    obtain ⟨i, hi, rfl, hext⟩ := hrel
    have HX7 := Lib.hid (HXS.out.trans hext)
    have HEX := Lib.hid hext
    by_cases hlt : i < 3
    · have hki : (i : Int) < 3 := by omega
      obtain ⟨hz, hall⟩ := HS.out.ext hext
      obtain ⟨k0, k1, k2, k3, k4⟩ := hall i (by omega)
      have HY := Lib.hid (HALL.out _ (List.getElem_mem (show i < cs.length by omega)))
      clear hext hall
      generalize cs[i] = x at *
      obtain ⟨co, cn, cot, ct, cnn⟩ := x
      simp only at k0 k1 k2 k3 k4
      have HS1 : Hid (cn.length ≤ 100000) := Lib.hid HY.out.1
      have HS2 : Hid (cot.length ≤ 100000) := Lib.hid HY.out.2.1
      have HS3 : Hid (ct.length ≤ 100000) := Lib.hid HY.out.2.2
      have HD := Lib.hid (Blk.new wr 31 #[.int .i64 co, str cn, str cot, str ct, .int .i64 cnn])
      have HXD := Lib.hid ((Ext.refl wr).alloc (.cells #[.int .i64 co, str cn, str cot, str ct, .int .i64 cnn] 31))
      go_upto_region 20 with fail
      have HXWD := Lib.hid (HX7.out.trans HXD.out)
      have HEWD := Lib.hid (HEX.out.trans HXD.out)
      generalize wr.alloc (.cells #[.int .i64 co, str cn, str cot, str ct, .int .i64 cnn] 31) = wd at *
      generalize wr.heap.size = gx at *
      have V1 : Hid (∀ W : World, Calls Tryz.prog 15 #[.agg #[.int .i64 co, str cn, str cot, str ct, .int .i64 cnn]] W fun e w' => e = .returned (.bool (validC ⟨co, cn, cot, ct, cnn⟩)) ∧ Ext W w') := Lib.hid (fun W => cvalid_any W ⟨co, cn, cot, ct, cnn⟩ (by have := HS1.out; simp only; omega) (by have := HS2.out; simp only; omega) (by have := HS3.out; simp only; omega))
      have V2 : Hid (∀ W : World, Calls Tryz.prog 16 #[.agg #[.int .i64 co, str cn, str cot, str ct, .int .i64 cnn]] W fun e w' => e = .returned (.bool (validC ⟨co, cn, cot, ct, cnn⟩)) ∧ Ext W w') := Lib.hid (fun W => rvalid31_any W ⟨co, cn, cot, ct, cnn⟩ (by have := HS1.out; simp only; omega) (by have := HS2.out; simp only; omega) (by have := HS3.out; simp only; omega))
      have F1 : Hid (∀ W : World, Ext wd W → Calls Tryz.prog 17 #[.agg #[.int .i64 co, str cn, str cot, str ct, .int .i64 cnn]] W fun e w' => e = .returned (str (formatC ⟨co, cn, cot, ct, cnn⟩)) ∧ Ext W w') := Lib.hid (fun W hx => cformat_any W ⟨co, cn, cot, ct, cnn⟩ (by have := HS1.out; simp only; omega) (by have := HS2.out; simp only; omega) (by have := HS3.out; simp only; omega) (HE.out.ext (HXWD.out.trans hx)))
      have F2 : Hid (∀ W : World, Calls Tryz.prog 9 #[.agg #[.int .i64 co, str cn, str cot, str ct, .int .i64 cnn]] W fun e w' => e = .returned (str (formatC ⟨co, cn, cot, ct, cnn⟩)) ∧ Ext W w') := Lib.hid (fun W => rformat31_any W ⟨co, cn, cot, ct, cnn⟩ (by have := HS1.out; simp only; omega) (by have := HS2.out; simp only; omega) (by have := HS3.out; simp only; omega))
      generalize validC ⟨co, cn, cot, ct, cnn⟩ = vb at *
      generalize formatC ⟨co, cn, cot, ct, cnn⟩ = fs at *
      have q1 : (vb != vb) = false := by simp
      have d0 := HD.out.cell 0
      have d1 := HD.out.cell 1
      have d2 := HD.out.cell 2
      have d3 := HD.out.cell 3
      have d4 := HD.out.cell 4
      have dz := HD.out.lt
      clear k0 k1 k2 k3 k4
      go_region_held3 (fun W => Ext wd W ∧ W.cell? ⟨gx, 0, none⟩ = some (.int .i64 co) ∧ W.cell? ⟨gx, 1, none⟩ = some (str cn) ∧ W.cell? ⟨gx, 2, none⟩ = some (str cot) ∧ W.cell? ⟨gx, 3, none⟩ = some (str ct) ∧ W.cell? ⟨gx, 4, none⟩ = some (.int .i64 cnn))
        (first | (exact kept5_drew ⟨d0, d1, d2, d3, d4⟩) | (exact kept5 (by assumption) (by assumption)))
        (first
          | (go_at_call 15; refine (V1.out _).mono ?_; rintro e w9 ⟨rfl, hx9⟩)
          | (go_at_call 16; refine (V2.out _).mono ?_; rintro e w10 ⟨rfl, hx10⟩)
          | (go_at_call 17; refine (F1.out _ (And.left (by assumption))).mono ?_; rintro e w11 ⟨rfl, hx11⟩)
          | (go_at_call 9; refine (F2.out _).mono ?_; rintro e w12 ⟨rfl, hx12⟩))
      all_goals
        go_wp2_with fail
        go_roundw
        case rel => exact ⟨i + 1, by omega, by go_num, HEWD.out.trans (And.left (by assumption))⟩
        case measure => simp [intOf]; omega
    · obtain rfl : i = 3 := by omega
      go_wp2_with fail
      go_ret
      exact ⟨rfl, HX7.out⟩
end Big
end Go.Proofs.YtoehdoghghpmjaaGreatDoor
/- Commands and their lines: the line of a valid command is read as this command. Plain. -/
namespace Go.Proofs.YtoehdoghghpmjaaGreatDoor
namespace Big
/-- What follows the first word of a command's line, without the space ahead. -/
def restC (c : Cmd) : List UInt8 :=
  if shapeC c.op = 1 then c.name
  else if shapeC c.op = 2 then c.name ++ (32 :: dec c.n.toNat)
  else if shapeC c.op = 3 then c.name ++ (32 :: c.other)
  else if shapeC c.op = 4 then dec c.n.toNat
  else if shapeC c.op = 5 then c.name ++ ([32, 61, 32] ++ c.text)
  else []
def gapC (c : Cmd) : Nat := if shapeC c.op = 0 then 0 else 1
theorem shape_six (op : Int) : shapeC op = 0 ∨ shapeC op = 1 ∨ shapeC op = 2 ∨ shapeC op = 3 ∨ shapeC op = 4 ∨ shapeC op = 5 := by
  unfold shapeC
  split
  · rename_i h
    obtain ⟨k, rfl⟩ := Int.eq_ofNat_of_zero_le h.1
    exact (show ∀ k : Fin 22, cmdShapes.getD k.val 0 = 0 ∨ cmdShapes.getD k.val 0 = 1 ∨ cmdShapes.getD k.val 0 = 2 ∨ cmdShapes.getD k.val 0 = 3 ∨ cmdShapes.getD k.val 0 = 4 ∨ cmdShapes.getD k.val 0 = 5 by decide) ⟨k, by omega⟩
  · exact .inl rfl
theorem format_split {c : Cmd} (h : validC c = true) : formatC c = nameC c.op ++ (List.replicate (gapC c) 32 ++ restC c) := by
  unfold formatC gapC restC
  rw [if_pos h]
  rcases shape_six c.op with e | e | e | e | e | e <;> simp [e]
theorem word_ends {t : List UInt8} (h : wordB t = true) : t ≠ [] ∧ (∀ c ∈ t, c ≠ 32) := by
  refine ⟨?_, ?_⟩
  · rintro rfl
    exact absurd h (by decide)
  · rintro c hc rfl
    rw [wordB_free hc] at h
    cases h
theorem head_not {t : List UInt8} (h : ∀ c ∈ t, c ≠ 32) : t.head? ≠ some 32 := by
  cases t with
  | nil => simp
  | cons c r =>
    intro h1
    injection h1 with h1
    exact h c (by simp) h1
theorem last_not {t : List UInt8} (h : ∀ c ∈ t, c ≠ 32) : t.getLast? ≠ some 32 := by
  intro h1
  exact h 32 (List.mem_of_getLast? h1) rfl
theorem dec_free {n : Nat} (h : n ≤ 9999) : dec n ≠ [] ∧ (∀ c ∈ dec n, c ≠ 32) := by
  have hs := dec_small h
  obtain ⟨h1, h2, _⟩ := natural_small (natural_dec n (by omega)) h
  refine ⟨h1, ?_⟩
  rintro c hc rfl
  exact absurd (List.all_eq_true.1 h2 32 hc) (by decide)
theorem text_ends {t : List UInt8} (h : textB t = true) : t ≠ [] ∧ t.head? ≠ some 32 ∧ t.getLast? ≠ some 32 := by
  unfold textB at h
  simp only [Bool.and_eq_true, Bool.not_eq_true', beq_eq_false_iff_ne] at h
  exact ⟨h.1.1.1.1, h.1.1.2, h.1.2⟩
theorem bareT_two {x y : List UInt8} (hx : x ≠ []) (h1 : x.head? ≠ some 32) (hy : y ≠ []) (h2 : y.getLast? ≠ some 32) : bareT (x ++ y) = x ++ y := by
  refine (bareT_iff (by simp [hx])).2 ⟨?_, ?_⟩
  · cases x with
    | nil => exact absurd rfl hx
    | cons c r => exact h1
  · rw [last_more hy]; exact h2
theorem sp_more (a : Nat) (r : List UInt8) : sp (List.replicate a 32 ++ r) = sp r := by
  induction a with
  | zero => rfl
  | succ a ih => rw [List.replicate_succ, List.cons_append, sp_space, ih]
theorem bareT_more (a b : Nat) {r : List UInt8} : bareT (List.replicate a 32 ++ (r ++ List.replicate b 32)) = bareT r := by
  rw [← List.append_assoc, bareT_rep]
  unfold bareT
  rw [sp_more]
/-- The parts of a valid command. -/
theorem valid_parts {c : Cmd} (h : validC c = true) : nameC c.op ≠ [] ∧
    (if shapeC c.op ≠ 0 ∧ shapeC c.op ≠ 4 then wordB c.name = true else c.name = []) ∧
    (if shapeC c.op = 3 then wordB c.other = true else c.other = []) ∧
    (if shapeC c.op = 5 then textB c.text = true else c.text = []) ∧
    (if shapeC c.op = 2 ∨ shapeC c.op = 4 then (0 ≤ c.n ∧ c.n ≤ 9999) else c.n = 0) := by
  unfold validC at h
  simp only [Bool.and_eq_true] at h
  obtain ⟨⟨⟨⟨h1, h2⟩, h3⟩, h4⟩, h5⟩ := h
  refine ⟨by simpa using h1, ?_, ?_, ?_, ?_⟩
  · split at h2
    · rename_i e; rw [if_pos e]; exact h2
    · rename_i e; rw [if_neg e]; simpa using h2
  · split at h3
    · rename_i e; rw [if_pos e]; exact h3
    · rename_i e; rw [if_neg e]; simpa using h3
  · split at h4
    · rename_i e; rw [if_pos e]; exact h4
    · rename_i e; rw [if_neg e]; simpa using h4
  · split at h5
    · rename_i e; rw [if_pos e]; simpa using h5
    · rename_i e; rw [if_neg e]; simpa using h5
theorem rest_bare {c : Cmd} (h : validC c = true) : bareT (restC c) = restC c := by
  obtain ⟨_, h2, h3, h4, h5⟩ := valid_parts h
  unfold restC
  rcases shape_six c.op with e | e | e | e | e | e
  all_goals simp only [e] at h2 h3 h4 h5 ⊢
  · rfl
  · simp at h2
    obtain ⟨a, b⟩ := word_ends h2
    simp
    exact (bareT_iff a).2 ⟨head_not b, last_not b⟩
  · simp at h2 h5
    obtain ⟨a, b⟩ := word_ends h2
    obtain ⟨a', b'⟩ := dec_free (n := c.n.toNat) (by omega)
    simp
    refine bareT_two a (head_not b) (by simp) ?_
    rw [show (32 : UInt8) :: dec c.n.toNat = [32] ++ dec c.n.toNat from rfl, last_more a']
    exact last_not b'
  · simp at h2 h3
    obtain ⟨a, b⟩ := word_ends h2
    obtain ⟨a', b'⟩ := word_ends h3
    simp
    refine bareT_two a (head_not b) (by simp) ?_
    rw [show (32 : UInt8) :: c.other = [32] ++ c.other from rfl, last_more a']
    exact last_not b'
  · simp at h5
    obtain ⟨a', b'⟩ := dec_free (n := c.n.toNat) (by omega)
    simp
    exact (bareT_iff a').2 ⟨head_not b', last_not b'⟩
  · simp at h2 h4
    obtain ⟨a, b⟩ := word_ends h2
    obtain ⟨a', b', c'⟩ := text_ends h4
    simp
    refine bareT_two a (head_not b) (by simp) ?_
    rw [show (32 : UInt8) :: 61 :: 32 :: c.text = [32, 61, 32] ++ c.text from rfl, last_more a']
    exact c'
theorem numW_dec {n : Nat} (h : n ≤ 9999) : numW (dec n) = some n := by
  have hs := dec_small h
  unfold numW
  rw [natural_dec n (by omega), if_pos ⟨rfl, h⟩]
theorem sp_free {t : List UInt8} (h0 : t ≠ []) (h : t.head? ≠ some 32) : sp t = t := by
  cases t with
  | nil => exact absurd rfl h0
  | cons c r => exact sp_cons (fun he => h (by rw [he]; rfl))
theorem read_back {c : Cmd} (h : validC c = true) : readP c.op (restC c) = some c := by
  obtain ⟨_, h2, h3, h4, h5⟩ := valid_parts h
  obtain ⟨op, nm, ot, tx, n⟩ := c
  unfold readP restC
  simp only at h2 h3 h4 h5 ⊢
  rcases shape_six op with e | e | e | e | e | e
  all_goals simp only [e] at h2 h3 h4 h5 ⊢
  · simp at h2 h3 h4 h5
    subst h2 h3 h4 h5
    simp [h]
  · simp at h2 h3 h4 h5
    subst h3 h4 h5
    obtain ⟨a, b⟩ := word_ends h2
    simp [fw_all b, sp, h]
  · simp at h2 h3 h4 h5
    subst h3 h4
    obtain ⟨a, b⟩ := word_ends h2
    obtain ⟨a', b'⟩ := dec_free (n := n.toNat) (by omega)
    have hn : ((n.toNat : Nat) : Int) = n := by omega
    simp [fw_append b, sp_space, sp_free a' (head_not b'), numW_dec (show n.toNat ≤ 9999 by omega), hn, h]
  · simp at h2 h3 h4 h5
    subst h4 h5
    obtain ⟨a, b⟩ := word_ends h2
    obtain ⟨a', b'⟩ := word_ends h3
    simp [fw_append b, sp_space, sp_free a' (head_not b'), h]
  · simp at h2 h3 h4 h5
    subst h2 h3 h4
    have hn : ((n.toNat : Nat) : Int) = n := by omega
    simp [numW_dec (show n.toNat ≤ 9999 by omega), hn, h]
  · simp at h2 h3 h4 h5
    subst h3 h5
    obtain ⟨a, b⟩ := word_ends h2
    obtain ⟨a', b', c'⟩ := text_ends h4
    have e1 := fw_append (r := 61 :: 32 :: tx) b
    have e2 := fw_append (s := [61]) (r := tx) (by simp)
    simp only [List.singleton_append] at e2
    simp [e1, sp_space, sp_cons (show (61 : UInt8) ≠ 32 by decide), e2, sp_free a' b', h]
theorem op_range {op : Int} (h : nameC op ≠ []) : 0 ≤ op ∧ op < 22 := by
  unfold nameC at h
  split at h
  · rename_i h1; exact h1
  · exact absurd rfl h
theorem name_free (op : Int) : ∀ c ∈ nameC op, c ≠ 32 := by
  unfold nameC
  split
  · rename_i h
    obtain ⟨k, rfl⟩ := Int.eq_ofNat_of_zero_le h.1
    exact (show ∀ k : Fin 22, ∀ c ∈ cmdNames.getD k.val [], c ≠ 32 by decide +kernel) ⟨k, by omega⟩
  · intro c hc; cases hc
theorem opOf_name {op : Int} (h : nameC op ≠ []) : ((opOf (nameC op) : Nat) : Int) = op ∧ opOf (nameC op) ≠ 0 := by
  have hr := op_range h
  unfold nameC at h ⊢
  rw [if_pos hr] at h ⊢
  obtain ⟨k, rfl⟩ := Int.eq_ofNat_of_zero_le hr.1
  rw [Int.toNat_natCast] at h ⊢
  have h1 := (show ∀ k : Fin 22, cmdNames.getD k.val [] ≠ [] → opOf (cmdNames.getD k.val []) = k.val ∧ k.val ≠ 0 by decide +kernel) ⟨k, by omega⟩ h
  exact ⟨by rw [h1.1], by rw [h1.1]; exact h1.2⟩
/-- Spaces ahead of the line, behind it, and between the first word and the others. -/
theorem line_wide {c : Cmd} (h : validC c = true) (a b j : Nat) (hj : shapeC c.op ≠ 0 → 0 < j) (hl : (List.replicate a 32 ++ (nameC c.op ++ (List.replicate j 32 ++ (restC c ++ List.replicate b 32)))).length ≤ 500) :
    lineC (List.replicate a 32 ++ (nameC c.op ++ (List.replicate j 32 ++ (restC c ++ List.replicate b 32)))) = (some c, 0) := by
  obtain ⟨hne, _⟩ := valid_parts h
  obtain ⟨ho, ho0⟩ := opOf_name hne
  have hfree := name_free c.op
  rw [line_same]
  unfold lineR
  rw [if_neg (by omega), sp_more]
  have hsp : sp (nameC c.op ++ (List.replicate j 32 ++ (restC c ++ List.replicate b 32))) = nameC c.op ++ (List.replicate j 32 ++ (restC c ++ List.replicate b 32)) :=
    sp_free (by simp [hne]) (by
      have := head_not hfree
      cases hn : nameC c.op with
      | nil => exact absurd hn hne
      | cons d r => rw [hn] at this; exact this)
  rw [hsp]
  have key : fw (nameC c.op ++ (List.replicate j 32 ++ (restC c ++ List.replicate b 32))) = nameC c.op ∧ rw_ (nameC c.op ++ (List.replicate j 32 ++ (restC c ++ List.replicate b 32))) = List.replicate j 32 ++ (restC c ++ List.replicate b 32) := by
    cases j with
    | succ j =>
      rw [List.replicate_succ, List.cons_append]
      exact fw_append hfree
    | zero =>
      have e : shapeC c.op = 0 := by
        by_cases e : shapeC c.op = 0
        · exact e
        · have := hj e; omega
      have hr : restC c = [] := by unfold restC; simp [e]
      rw [hr]
      simp only [List.replicate_zero, List.nil_append]
      cases b with
      | zero =>
        simp only [List.replicate_zero, List.append_nil]
        exact fw_all hfree
      | succ b =>
        rw [List.replicate_succ]
        exact fw_append hfree
  rw [key.1, key.2, if_neg ho0, ho, ← read_same, bareT_more, rest_bare h, read_back h]
theorem line_back {c : Cmd} (h : validC c = true) (hl : (formatC c).length ≤ 500) : lineC (formatC c) = (some c, 0) := by
  have e := format_split h
  have h1 := line_wide h 0 0 (gapC c) (by intro e; unfold gapC; rw [if_neg e]; omega)
  simp only [List.replicate_zero, List.nil_append, List.append_nil] at h1
  rw [← e] at h1
  exact h1 hl
theorem line_wide2 {c : Cmd} (h : validC c = true) (a : Nat) (x : List UInt8) (hx : x = List.replicate a 32 ++ (formatC c ++ [32, 32])) (hl : x.length + 1 ≤ 500) :
    lineC (x.take ((nameC c.op).length + a) ++ [32] ++ x.drop ((nameC c.op).length + a)) = (some c, 0) := by
  have e := format_split h
  have hx2 : x = (List.replicate a 32 ++ nameC c.op) ++ (List.replicate (gapC c) 32 ++ (restC c ++ List.replicate 2 32)) := by
    rw [hx, e]; simp
  have hlen : (List.replicate a 32 ++ nameC c.op).length = (nameC c.op).length + a := by simp; omega
  have ht : x.take ((nameC c.op).length + a) = List.replicate a 32 ++ nameC c.op := by rw [hx2, ← hlen, List.take_left' rfl]
  have hd : x.drop ((nameC c.op).length + a) = List.replicate (gapC c) 32 ++ (restC c ++ List.replicate 2 32) := by rw [hx2, ← hlen, List.drop_left' rfl]
  have hw := line_wide h a 2 (gapC c + 1) (fun _ => by omega)
  have heq : x.take ((nameC c.op).length + a) ++ [32] ++ x.drop ((nameC c.op).length + a) = List.replicate a 32 ++ (nameC c.op ++ (List.replicate (gapC c + 1) 32 ++ (restC c ++ List.replicate 2 32))) := by
    rw [ht, hd, List.replicate_succ (n := gapC c)]; simp
  rw [heq]
  refine hw ?_
  rw [← heq]
  have hle : (nameC c.op).length + a ≤ x.length := by rw [hx2]; simp; omega
  simp only [List.length_append, List.length_take, List.length_drop, List.length_singleton]
  omega
end Big
end Go.Proofs.YtoehdoghghpmjaaGreatDoor
