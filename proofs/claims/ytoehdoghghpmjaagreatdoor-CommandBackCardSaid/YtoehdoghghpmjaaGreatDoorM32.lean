import Derived.Test.YtoehdoghghpmjaaGreatDoorM31
import Derived.Test.YtoehdoghghpmjaaGreatDoorRows
import Derived.Test.YtoehdoghghpmjaaGreatDoorM4
import Derived.ProofKit
import Derived.LaidMore
import Derived.OpenShut
import Derived.Stop.Joined
import Derived.Lib.LaidTab
import Derived.Carry
import Derived.Handed
import Derived.HandedShaped
import Derived.Deep.Strs
import Derived.ChangeMaps5
import Derived.Lib.SmallJoins
import Derived.Test.YtoehdoghghpmjaaGreatDoorM15
import Derived.LaidLaws
import Derived.Test.YtoehdoghghpmjaaGreatDoorM20
/- CommandBack. -/
namespace Go.Proofs.YtoehdoghghpmjaaGreatDoor
namespace Big
open Go.RowKit
def wideC (p : Nat) (fs : List UInt8) : List UInt8 := List.replicate p 32 ++ (fs ++ [32, 32])
theorem wideC_len (p : Nat) (fs : List UInt8) : (wideC p fs).length = p + fs.length + 2 := by unfold wideC; simp; omega
theorem name_format {c : Cmd} (h : validC c = true) : (nameC c.op).length ≤ (formatC c).length := by
  rw [format_split h]; simp
theorem spaces3 (p : Nat) (hp : p ≤ 3) : ([32, 32, 32] : List UInt8).take p = List.replicate p 32 := by
  have : p = 0 ∨ p = 1 ∨ p = 2 ∨ p = 3 := by omega
  rcases this with rfl | rfl | rfl | rfl <;> rfl
theorem name_short (op : Int) : (nameC op).length ≤ 9 := by
  unfold nameC
  split
  · rename_i h
    obtain ⟨k, rfl⟩ := Int.eq_ofNat_of_zero_le h.1
    exact (show ∀ k : Fin 22, (cmdNames.getD k.val []).length ≤ 9 by decide +kernel) ⟨k, by omega⟩
  · simp
theorem format_short {c : Cmd} (h : validC c = true) : (formatC c).length ≤ 440 := by
  have hn := name_short c.op
  obtain ⟨_, h2, h3, h4, h5⟩ := valid_parts h
  rw [format_split h, List.length_append, List.length_append, List.length_replicate]
  have hg : gapC c ≤ 1 := by unfold gapC; split <;> omega
  have hr : (restC c).length ≤ 430 := by
    unfold restC
    rcases shape_six c.op with e | e | e | e | e | e
    all_goals simp only [e] at h2 h3 h4 h5 ⊢
    · simp
    · simp at h2
      have := wordB_le h2
      simp; omega
    · simp at h2 h5
      have := wordB_le h2
      have := dec_small (n := c.n.toNat) (by omega)
      simp; omega
    · simp at h2 h3
      have := wordB_le h2
      have := wordB_le h3
      simp; omega
    · simp at h5
      have := dec_small (n := c.n.toNat) (by omega)
      simp; omega
    · simp at h2 h4
      have := wordB_le h2
      have ht : c.text.length ≤ 400 := by
        unfold textB at h4
        simp only [Bool.and_eq_true, decide_eq_true_eq] at h4
        exact h4.1.1.1.2
      simp; omega
  omega
/-- mill.New, the tape's block any. -/
theorem newX_any (w : World) (v : Value) (l : List Int) (h : ArrI w v l) (hn : l.length ≤ 1000000) : Calls Tryz.prog 8 #[v] w fun e w' => ∃ g, e = .returned (.pointer (some ⟨g, 0, none⟩)) ∧ TapeAt w'.heap.size g w' v l 0 ∧ Ext w w' ∧ w.heap.size ≤ g :=
  (new_any w v l h hn).mono fun _ _ ⟨h1, h2, h3, h4⟩ => ⟨w.heap.size, h1, by rw [h4]; exact h2, h3, Nat.le_refl _⟩
theorem spaces_cut (p : Nat) (hp : p ≤ 3) (W : World) : (Instr.slice 9 (.string ⟨#[32, 32, 32]⟩) none (some (.int .i64 (p : Int))) none).run Tryz.prog W = .ok (str (List.replicate p 32)) W := by
  have h := run_slice_str_to [32, 32, 32] .i64 (p : Int) W
  rw [if_pos ⟨by omega, by simp; omega⟩, Int.toNat_natCast, spaces3 p hp] at h
  exact h
set_option maxHeartbeats 8000000 in
set_option maxRecDepth 100000 in
theorem commandBack_any (w : World) (c : Cmd) (v : Value) (l : List Int) (gp : Int) (h : ArrI w v l) (hf1 : -9223372036854775808 ≤ gp) (hf2 : gp ≤ 9223372036854775807) (hm : MaxV w) (hE : CmdEnv w) :
    Calls Tryz.prog 5 #[cmdV c, v, .int .i64 gp] w fun e w' => e = .returned (.bool true) ∧ Ext w w' := by
  have HAW := Lib.hid (fun W hx => awake31_any W (hm.ext (w' := W) hx) (hE.ext hx))
  have HE := Lib.hid hE
  have HM := Lib.hid hm
  have HL := Lib.hid h
  have HLT := Lib.hid (fun W hx => light_any W v l (HL.out.ext hx))
  have HSH := Lib.hid (fun W => short_any W c)
  have HMP := Lib.hid (fun W => mod_any W gp 4 hf1 hf2 (by decide) (by decide))
  have hq1 := Int.emod_nonneg gp (show (4 : Int) ≠ 0 by decide)
  have hq2 := Int.emod_lt_of_pos gp (show (0 : Int) < 4 by decide)
  generalize gp % 4 = q at *
  obtain ⟨p, rfl⟩ := Int.eq_ofNat_of_zero_le hq1
  have hp3 : p ≤ 3 := by omega
  obtain ⟨A0, c0, rfl, _⟩ := h.open
  have HSC : Hid (shortC c = true → SmallC c) := Lib.hid (fun hs => by
    unfold shortC at hs
    simp only [Bool.and_eq_true, decide_eq_true_eq] at hs
    exact ⟨by omega, by omega, by omega⟩)
  have HBB := Lib.hid (Blk.new w 31 #[.int .i64 c.op, str c.name, str c.other, str c.text, .int .i64 c.n])
  have HXB := Lib.hid ((Ext.refl w).alloc (.cells #[.int .i64 c.op, str c.name, str c.other, str c.text, .int .i64 c.n] 31))
  clear h hm hE hq1 hq2
  unfold cmdV at HSH ⊢
  generalize hsh : shortC c = sh at *
  go_enter Tryz.func5, Tryz.ntmps5
  go_upto_region 1 with fail
  have hgb0 : w.heap.size ≤ w.heap.size := Nat.le_refl _
  generalize w.alloc (.cells #[.int .i64 c.op, str c.name, str c.other, str c.text, .int .i64 c.n] 31) = wb at *
  obtain ⟨gb, hgb⟩ : ∃ gb, gb = w.heap.size := ⟨_, rfl⟩
  rw [← hgb] at HBB ⊢
  have HGB : Hid (w.heap.size ≤ gb) := Lib.hid (by omega)
  clear hgb hgb0
  go_wp2_with fail
  refine (HAW.out _ HXB.out).mono ?_
  rintro e w1 ⟨rfl, hx1⟩
  have HX1 := Lib.hid (HXB.out.trans hx1)
  have HB1 := Lib.hid (HBB.out.ext hx1)
  clear hx1 HXB HBB
  have r0 := HB1.out.cell 0
  have r1 := HB1.out.cell 1
  have r2 := HB1.out.cell 2
  have r3 := HB1.out.cell 3
  have r4 := HB1.out.cell 4
  go_wp2_with fail
  refine (HSH.out _).mono ?_
  rintro e w2 ⟨rfl, hx2⟩
  have HX2 := Lib.hid (HX1.out.trans hx2)
  have HB2 := Lib.hid (HB1.out.ext hx2)
  clear hx2 HX1 HB1 r0 r1 r2 r3 r4
  cases sh
  · go_wp2_with fail
    go_ret
    exact ⟨rfl, HX2.out⟩
  have HSM := Lib.hid (HSC.out rfl)
  clear HSC
  by_cases hlt : 120 < l.length
  · have hd : decide (l.length ≤ 120) = false := decide_eq_false (by omega)
    rw [hd] at HLT
    clear hlt hd
    go_wp2_with fail
    refine (HLT.out _ HX2.out).mono ?_
    rintro e w3 ⟨rfl, rfl⟩
    go_wp2_with fail
    go_ret
    exact ⟨rfl, HX2.out⟩
  have hd : decide (l.length ≤ 120) = true := decide_eq_true (by omega)
  rw [hd] at HLT
  have hll : l.length ≤ 120 := by omega
  clear hlt hd
  go_wp2_with fail
  refine (HLT.out _ HX2.out).mono ?_
  rintro e w3 ⟨rfl, rfl⟩
  go_upto_region 5 with fail
  clear HLT
  go_cut [30, 31, 32] from 26 to 32 (fun s30 s31 s32 wx => ∃ (gs : Nat) (cc : Cmd), s30 = .slice (some ⟨gs, 0, none⟩) 2 2 ∧ s31 = .int .i64 2 ∧ s32 = .int .i64 0 ∧ SmallC cc ∧ CmdsAt wx gs [c, cc] ∧ Ext w wx)
  case first =>
    obtain ⟨x1, hx1⟩ : ∃ t, str c.name = .string t := ⟨_, rfl⟩
    obtain ⟨x2, hx2⟩ : ∃ t, str c.other = .string t := ⟨_, rfl⟩
    obtain ⟨x3, hx3⟩ : ∃ t, str c.text = .string t := ⟨_, rfl⟩
    have HBD := Lib.hid (HB2.out.drew)
    rw [hx1, hx2, hx3] at HBD
    have HXN := Lib.hid (And.intro hx1 (And.intro hx2 hx3))
    clear hx1 hx2 hx3 HB2
    have HXD := Lib.hid (HX2.out.trans (Ext.refl w2).drew)
    have HN1 := Lib.hid (newX_any w2.drew _ l (HL.out.ext HXD.out) (by omega))
    have hr0 := HBD.out.cell 0
    have hr1 := HBD.out.cell 1
    have hr2 := HBD.out.cell 2
    have hr3 := HBD.out.cell 3
    have hr4 := HBD.out.cell 4
    go_region_with (first
      | (go_at_call 8; refine HN1.out.mono ?_; rintro e w3 ⟨g3, rfl, ht3, hx3, hg3⟩; have HT3 := Lib.hid ht3; have HX3 := Lib.hid (HXD.out.trans hx3); have HB3 := Lib.hid (HBD.out.ext hx3); have HG3 : Hid (gb < g3 ∧ w.heap.size ≤ g3) := Lib.hid ⟨Nat.lt_of_lt_of_le HBD.out.lt hg3, Nat.le_trans HXD.out.size hg3⟩; have t0 := HB3.out.cell 0; have t1 := HB3.out.cell 1; have t2 := HB3.out.cell 2; have t3 := HB3.out.cell 3; have t4 := HB3.out.cell 4; clear ht3 hx3 hg3)
      | (go_at_call 10; refine (command_any w3 g3 _ l 0 600 HT3.out (by decide) (by decide)).mono ?_; rintro e w4 ⟨cc, a4, rfl, l1, l2, l3, _, hk4⟩; have HX4 := Lib.hid (hk4.to_ext HX3.out HX3.out.size HG3.out.2); have HB4 := Lib.hid (hk4.blk HB3.out HB3.out.lt (by have := HG3.out.1; omega)); have HSC : Hid (SmallC cc) := Lib.hid ⟨by omega, by omega, by omega⟩; have v0 := HB4.out.cell 0; have v1 := HB4.out.cell 1; have v2 := HB4.out.cell 2; have v3 := HB4.out.cell 3; have v4 := HB4.out.cell 4; clear l1 l2 l3 hk4; obtain ⟨y1, hy1⟩ : ∃ t, str cc.name = .string t := ⟨_, rfl⟩; obtain ⟨y2, hy2⟩ : ∃ t, str cc.other = .string t := ⟨_, rfl⟩; obtain ⟨y3, hy3⟩ : ∃ t, str cc.text = .string t := ⟨_, rfl⟩; unfold cmdV; rw [hy1, hy2, hy3]; have HYN := Lib.hid (And.intro hy1 (And.intro hy2 hy3)); clear hy1 hy2 hy3))
    all_goals
      go_wp2_with fail
      go_meet
      have hat := cmds_two (a := c) (b := cc) (Blk.new w4 31 _)
      rw [HXN.out.1, HXN.out.2.1, HXN.out.2.2, HYN.out.1, HYN.out.2.1, HYN.out.2.2] at hat
      exact ⟨w4.heap.size, cc, rfl, rfl, rfl, HSC.out, hat, HX4.out.alloc _⟩
  case rest =>
  obtain ⟨gs, cc, rfl, rfl, rfl, hsc, hat, hxw⟩ := hcut
  have HALL : Hid (∀ x ∈ [c, cc], SmallC x) := Lib.hid (by
    intro x hx
    simp only [List.mem_cons, List.not_mem_nil, or_false] at hx
    rcases hx with rfl | rfl
    · exact HSM.out
    · exact hsc)
  have HS := Lib.hid hat
  have HX := Lib.hid hxw
  obtain ⟨cs, hcs⟩ : ∃ cs, cs = [c, cc] := ⟨_, rfl⟩
  rw [← hcs] at HS HALL
  have hc2 : cs.length = 2 := by rw [hcs]; rfl
  clear hcs hsc hat hxw HB2
  generalize wc = wy at *
  go_wp2_with fail
  go_loopw [32] (fun s32 wq => ∃ i : Nat, i ≤ 2 ∧ s32 = .int .i64 (i : Int) ∧ Ext wy wq) (fun s32 _ => 2 - (intOf s32).toNat)
  case atStart => exact ⟨0, by omega, rfl, Ext.refl _⟩
  case round =>
    obtain ⟨i, hi, rfl, hext⟩ := hrel
    have HX7 := Lib.hid (HX.out.trans hext)
    have HEX := Lib.hid hext
    by_cases hlt : i < 2
    · have hki : (i : Int) < 2 := by omega
      obtain ⟨hz, hall⟩ := HS.out.ext hext
      obtain ⟨k0, k1, k2, k3, k4⟩ := hall i (by omega)
      have HY := Lib.hid (HALL.out _ (List.getElem_mem (show i < cs.length by omega)))
      clear hext hall
      generalize cs[i] = x at *
      obtain ⟨nb, hnb⟩ : ∃ t, str x.name = .string t := ⟨_, rfl⟩
      obtain ⟨ob, hob⟩ : ∃ t, str x.other = .string t := ⟨_, rfl⟩
      obtain ⟨tb, htb⟩ : ∃ t, str x.text = .string t := ⟨_, rfl⟩
      have hcv : cmdV x = .agg #[.int .i64 x.op, .string nb, .string ob, .string tb, .int .i64 x.n] := by unfold cmdV; rw [hnb, hob, htb]
      have V1 := Lib.hid (fun W => cvalid_any W x (by have := HY.out.1; omega) (by have := HY.out.2.1; omega) (by have := HY.out.2.2; omega))
      have F1 := Lib.hid (fun W hx => cformat_any W x (by have := HY.out.1; omega) (by have := HY.out.2.1; omega) (by have := HY.out.2.2; omega) (HE.out.ext (w' := W) hx))
      have PB : Hid (validC x = true → ∀ W, Ext w W → Calls Tryz.prog 12 #[str (formatC x)] W fun e w' => e = .returned (.tuple #[cmdV x, .int .i64 0]) ∧ Ext W w') := Lib.hid (fun hv W hx => by
        have h1 := format_short hv
        have h2 := cparse_any W (formatC x) (by omega) (HM.out.ext hx) (HE.out.ext hx)
        rw [line_back hv (by omega)] at h2
        exact h2)
      have PW : Hid (validC x = true → ∀ W, Ext w W → Calls Tryz.prog 12 #[str ((wideC p (formatC x)).take ((nameC x.op).length + p) ++ [32] ++ (wideC p (formatC x)).drop ((nameC x.op).length + p))] W fun e w' => e = .returned (.tuple #[cmdV x, .int .i64 0]) ∧ Ext W w') := Lib.hid (fun hv W hx => by
        have h1 := format_short hv
        have h3 := wideC_len p (formatC x)
        have h2 := cparse_any W ((wideC p (formatC x)).take ((nameC x.op).length + p) ++ [32] ++ (wideC p (formatC x)).drop ((nameC x.op).length + p)) (by simp; omega) (HM.out.ext hx) (HE.out.ext hx)
        rw [line_wide2 hv p (wideC p (formatC x)) rfl (by omega)] at h2
        exact h2)
      have NM := Lib.hid (fun W => rname31_any W x.op)
      have HLN : Hid (validC x = true → (formatC x).length ≤ 440 ∧ (nameC x.op).length ≤ (formatC x).length) := Lib.hid (fun hv => ⟨format_short hv, name_format hv⟩)
      rw [hcv] at V1 F1 PB PW
      rw [hnb] at k1
      rw [hob] at k2
      rw [htb] at k3
      have HD := Lib.hid (Blk.new wr 31 #[.int .i64 x.op, .string nb, .string ob, .string tb, .int .i64 x.n])
      have HXD := Lib.hid ((Ext.refl wr).alloc (.cells #[.int .i64 x.op, .string nb, .string ob, .string tb, .int .i64 x.n] 31))
      generalize validC x = vb at *
      generalize formatC x = fs at *
      generalize nameC x.op = nm at *
      generalize x.op = xo at *
      generalize x.n = xn at *
      clear hcv hnb hob htb HY
      go_upto_region 8 with fail
      have HXWD := Lib.hid (HX7.out.trans HXD.out)
      have HEWD := Lib.hid (HEX.out.trans HXD.out)
      generalize wr.alloc (.cells #[.int .i64 xo, .string nb, .string ob, .string tb, .int .i64 xn] 31) = wd at *
      generalize wr.heap.size = gx at *
      have d0 := HD.out.cell 0
      have d1 := HD.out.cell 1
      have d2 := HD.out.cell 2
      have d3 := HD.out.cell 3
      have d4 := HD.out.cell 4
      have dz := HD.out.lt
      clear k0 k1 k2 k3 k4 hz
      go_wp2_with fail
      refine (V1.out _).mono ?_
      rintro e w3 ⟨rfl, hx3⟩
      have HE3 := Lib.hid (HEWD.out.trans hx3)
      have HX3 := Lib.hid (HXWD.out.trans hx3)
      have HD3 := Lib.hid (HD.out.ext hx3)
      clear hx3 d0 d1 d2 d3 d4 dz HD V1
      cases vb
      · go_wp2_with fail
        go_roundw
        case rel => exact ⟨i + 1, by omega, by go_num, HE3.out⟩
        case measure => simp [intOf]; omega
      have PB2 := Lib.hid (PB.out rfl)
      have PW2 := Lib.hid (PW.out rfl)
      obtain ⟨hfl, hnl⟩ := HLN.out rfl
      have h5 : ¬ (500 : Int) < (fs.length : Int) := by omega
      clear PB PW HLN
      have d0 := HD3.out.cell 0
      have d1 := HD3.out.cell 1
      have d2 := HD3.out.cell 2
      have d3 := HD3.out.cell 3
      have d4 := HD3.out.cell 4
      have dz := HD3.out.lt
      go_wp2_with fail
      refine (F1.out _ HX3.out).mono ?_
      rintro e w4 ⟨rfl, hx4⟩
      have HE4 := Lib.hid (HE3.out.trans hx4)
      have HX4 := Lib.hid (HX3.out.trans hx4)
      have HD4 := Lib.hid (HD3.out.ext hx4)
      clear hx4 d0 d1 d2 d3 d4 dz HD3 F1 HE3 HX3
      go_wp2_with fail
      refine (PB2.out _ HX4.out).mono ?_
      rintro e w5 ⟨rfl, hx5⟩
      have HA5 := Lib.hid ((Ext.refl w5).alloc (.cells #[.int .i64 xo, .string nb, .string ob, .string tb, .int .i64 xn] 31))
      have HB5 := Lib.hid (Blk.new w5 31 #[.int .i64 xo, .string nb, .string ob, .string tb, .int .i64 xn])
      have HE5 := Lib.hid ((HE4.out.trans hx5).trans HA5.out)
      have HX5 := Lib.hid ((HX4.out.trans hx5).trans HA5.out)
      have HD5 := Lib.hid ((HD4.out.ext hx5).ext HA5.out)
      clear hx5 HD4 HE4 HX4 PB2 HA5
      go_upto_region 11 with fail
      generalize w5.alloc (.cells #[.int .i64 xo, .string nb, .string ob, .string tb, .int .i64 xn] 31) = w6 at *
      generalize w5.heap.size = gy at *
      have d0 := HD5.out.cell 0
      have d1 := HD5.out.cell 1
      have d2 := HD5.out.cell 2
      have d3 := HD5.out.cell 3
      have d4 := HD5.out.cell 4
      have dz := HD5.out.lt
      have b0 := HB5.out.cell 0
      have b1 := HB5.out.cell 1
      have b2 := HB5.out.cell 2
      have b3 := HB5.out.cell 3
      have b4 := HB5.out.cell 4
      have bz := HB5.out.lt
      go_wp2_with fail
      refine (HMP.out _).mono ?_
      rintro e w7 ⟨rfl, rfl⟩
      have hcut3 := fun W => spaces_cut p hp3 W
      obtain ⟨f, hf⟩ : ∃ f, f = nm.length + p := ⟨_, rfl⟩
      have hw1 : IntKind.i64.wrap ((nm.length : Int) + (p : Int)) = (f : Int) := by rw [IntWalk.i64_in _ (by omega)]; omega
      rw [← hf] at PW2
      have hwl := wideC_len p fs
      have ha1 : ∀ W : World, (binOp .add 9 (str (List.replicate p 32)) (str fs)).run Tryz.prog W = .ok (str (List.replicate p 32 ++ fs)) W := fun W => run_add_str _ _ (by simp; omega) W
      have ha2 : ∀ W : World, (binOp .add 9 (str (List.replicate p 32 ++ fs)) (.string ⟨#[32, 32]⟩)).run Tryz.prog W = .ok (str (wideC p fs)) W := fun W => by
        have := run_add_str (List.replicate p 32 ++ fs) [32, 32] (by simp; omega) W
        rw [List.append_assoc] at this
        exact this
      generalize wideC p fs = wd2 at *
      generalize List.replicate p 32 ++ fs = ws at *
      have hfw : (f : Int) ≤ (wd2.length : Int) := by omega
      have hfw2 : ¬ (wd2.length : Int) < (f : Int) := by omega
      have hf0 : (0 : Int) ≤ (f : Int) := by omega
      have ha3 : ∀ W : World, (binOp .add 9 (str (wd2.take f)) (.string ⟨#[32]⟩)).run Tryz.prog W = .ok (str (wd2.take f ++ [32])) W := fun W => run_add_str _ [32] (by simp; omega) W
      have ha4 : ∀ W : World, (binOp .add 9 (str (wd2.take f ++ [32])) (str (wd2.drop f))).run Tryz.prog W = .ok (str (wd2.take f ++ [32] ++ wd2.drop f)) W := fun W => run_add_str _ _ (by simp; omega) W
      have HZL : Hid ((wd2.take f ++ [32] ++ wd2.drop f).length ≤ 500) := Lib.hid (by simp; omega)
      rw [List.append_assoc, List.singleton_append] at PW2 HZL
      clear hwl hf hfl hnl
      go_wp2_with fail
      refine (NM.out _).mono ?_
      rintro e w8 ⟨rfl, hx8⟩
      have HE8 := Lib.hid (HE5.out.trans hx8)
      have HX8 := Lib.hid (HX5.out.trans hx8)
      have HD8 := Lib.hid (HD5.out.ext hx8)
      clear hx8 d0 d1 d2 d3 d4 dz b0 b1 b2 b3 b4 bz HD5 HB5 HX5 HE5
      go_wp2_with fail
      refine (HMP.out _).mono ?_
      rintro e w9 ⟨rfl, rfl⟩
      go_wp2_with fail
      go_quiet (fail)
      go_wp2_with fail
      have HEQ := Lib.hid (HE8.out.trans ((Ext.refl w8).drewN nq))
      have HXQ := Lib.hid (HX8.out.trans ((Ext.refl w8).drewN nq))
      have HDQ := Lib.hid (HD8.out.drewN nq)
      generalize w8.drewN nq = wq at *
      refine (PW2.out _ HXQ.out).mono ?_
      rintro e w10 ⟨rfl, hx10⟩
      have HA10 := Lib.hid ((Ext.refl w10).alloc (.cells #[.int .i64 xo, .string nb, .string ob, .string tb, .int .i64 xn] 31))
      have HB10 := Lib.hid (Blk.new w10 31 #[.int .i64 xo, .string nb, .string ob, .string tb, .int .i64 xn])
      have HE10 := Lib.hid ((HEQ.out.trans hx10).trans HA10.out)
      have HD10 := Lib.hid ((HDQ.out.ext hx10).ext HA10.out)
      have hzl : ((wd2.take f ++ 32 :: wd2.drop f).length : Int) ≤ 500 := by have := HZL.out; omega
      generalize wd2.take f ++ 32 :: wd2.drop f = zz at *
      clear hx10 HDQ HEQ HXQ PW2
      go_upto_region 22 with fail
      generalize w10.alloc (.cells #[.int .i64 xo, .string nb, .string ob, .string tb, .int .i64 xn] 31) = w11 at *
      generalize w10.heap.size = gz at *
      have d0 := HD10.out.cell 0
      have d1 := HD10.out.cell 1
      have d2 := HD10.out.cell 2
      have d3 := HD10.out.cell 3
      have d4 := HD10.out.cell 4
      have dz := HD10.out.lt
      have b0 := HB10.out.cell 0
      have b1 := HB10.out.cell 1
      have b2 := HB10.out.cell 2
      have b3 := HB10.out.cell 3
      have b4 := HB10.out.cell 4
      have bz := HB10.out.lt
      go_wp2_with fail
      go_roundw
      case rel => exact ⟨i + 1, by omega, by go_num, HE10.out⟩
      case measure => simp [intOf]; omega
    · obtain rfl : i = 2 := by omega
      go_wp2_with fail
      go_ret
      exact ⟨rfl, HX7.out⟩
end Big
end Go.Proofs.YtoehdoghghpmjaaGreatDoor
/- The frame round a law's walk: the arguments opened; behind the call they read as they did. -/
namespace Go.Proofs.YtoehdoghghpmjaaGreatDoor
open Go.ChangeShapes Go.WideShapes Go.ChangeAt Go.RowKit

section
variable {H : Type} {enc : TypeId × Value → H} {P : Program}
theorem trodAll_stays (hl : laidOutB P = true) {W W' : World} (hb : Big.Ext W W') : ∀ (ts : List TypeId) (vs : List Value) (ds : List (DataW H)) (ps : List MemPlace),
    (∀ t ∈ ts, P.readableRec t = true ∧ t < P.types.size) → DataW.TrodAll enc P W 0 (fun _ => true) true ts vs ds ps → (∀ x ∈ ps, x.block < W.heap.size) →
    DataW.TrodAll enc P W' 0 (fun b => decide (b < W.heap.size)) true ts vs ds ps
  | [], vs, ds, ps, _, h, _ => by
    obtain ⟨rfl, rfl, rfl⟩ := trodAll_nil h
    exact trodAll_mk0
  | t :: ts, vs, ds, ps, ht, h, hlt => by
    obtain ⟨v, vs', d, ds', p, q, rfl, rfl, rfl, h1, h2⟩ := trodAll_cons h
    exact trodAll_cons_mk (Below.trod hl (ht t (by simp)).1 (ht t (by simp)).2 h1 hb (fun x hx => hlt x (List.mem_append_left _ hx)))
      (trodAll_stays hl hb ts vs' ds' q (fun t' h' => ht t' (by simp [h'])) h2 (fun x hx => hlt x (List.mem_append_right _ hx)))

/-- What the row asks of a law that returned true and left what was there. -/
theorem post_true {f : Func} {s : ChangeSpec} {W W' : World} {args : Array Value} {ds gs : List (DataW H)} {before : List MemPlace} {tb : TypeId} (hl : laidOutB P = true)
    (hts : (f.params.toList.all fun t => P.readableRec t && decide (t < P.types.size)) = true) (hv : s.vars = []) (hr : f.resultTypes = #[tb]) (htb : P.underlying tb = some .bool)
    (hW : DataW.Whole enc P f.params.toList s.vars false W args.toList ds gs before) (hfn : s.fn H ds = { results := [.lit (.bool true)], args := ds }) (hb : Big.Ext W W') :
    s.post enc P f false true false false W args (.bool true) W' := by
  have hlt := hW.lt
  have hW' := hW
  obtain ⟨p, q, hA, hV, rfl, hfz, hnd⟩ := hW
  rw [hv] at hV
  obtain ⟨rfl, rfl⟩ := trodVars_none hV
  have hfn' : s.fn H (ds ++ []) = { results := [.lit (.bool true)], args := ds } := by rw [List.append_nil]; exact hfn
  refine ⟨ds, [], p ++ [], [], p, [], hW', ?_, ?_, ?_, hb.frame _, fun h => by cases h⟩
  · rw [hfn', hr]
    exact trodAll_mk1 (shut_bool htb _)
  · rw [hfn']
    exact trodAll_stays hl hb _ _ _ _ (fun t ht => by
      have := List.all_eq_true.1 hts t ht
      simpa using this) hA (fun x hx => hlt x (by simpa using hx))
  · rw [hfn', hv]
    rfl
end

/-- A law under its row's conditions, with the form of the world at its beginning. -/
theorem handed_and_shaped {H : Type} {enc : TypeId × Value → H} {a : Assume} {C : Checked} {os : Os} {f : FuncId} {fn : Func} {s : ChangeSpec} {conds : List PathCond} {apart fresh handsOn again : Bool} {X : World → Array Value → Prop}
    (hX : ∀ (w w' : World) (args : Array Value), w.heap = w'.heap → X w args → X w' args)
    (own : ownKnob C.prog.godebug = none) (started : os.Started) (noInit : C.prog.inits.idxOf? f = none) (hfn : C.prog.funcs[f]? = some fn)
    (witness : ∃ (w : World) (tape : Tape) (i : Input), w.os = os ∧ (w.forCall tape i).Shaped C.prog ∧ i.vars = [] ∧ Input.okWide C.prog (w.forCall tape i) .any w.heap.size f i ∧
      ((s.pre enc C.prog fn conds apart (w.forCall tape i).memory i.args ∧ X (w.forCall tape i).memory i.args) ∧ sizedMet enc C.prog fn (OpenSpec.ofChange s) apart (w.forCall tape i).memory i.args) ∧ a.holds C.prog (lone (Frame.enter C.prog f i.args .normal) [] (w.forCall tape i)))
    (contract : ∀ (W : World) (base : Nat) (args : Array Value) (ds gs : List (DataW H)) (before : List MemPlace),
      (∀ (j : Nat) t v, fn.params[j]? = some t → args[j]? = some v → Value.okWide C.prog W .any base t v) →
      DataW.Whole enc C.prog fn.params.toList s.vars apart W args.toList ds gs before →
      (DataW.weightsEach C.prog (fn.params.toList ++ s.plain.varTypes C.prog) (ds ++ gs)).all (· ≤ reachBytes) = true → X W args → W.ShapedOpen C.prog →
      Calls C.prog f args W fun e W' => ∃ v, e = .returned v ∧ s.post enc C.prog fn apart fresh handsOn again W args v W') :
    ReturnsInHanded a C os f .any (fun w args => (s.pre enc C.prog fn conds apart w args ∧ X w args) ∧ sizedMet enc C.prog fn (OpenSpec.ofChange s) apart w args) (s.post enc C.prog fn apart fresh handsOn again) := by
  refine returnsInHanded_of_calls own started noInit witness ?_
  intro w tape i _ hsh _ hok hpre hholds
  obtain ⟨_, _, _, fn', hfn', _, _, _, _, hval⟩ := hok
  have e : fn' = fn := Option.some.inj (hfn'.symm.trans hfn)
  subst e
  obtain ⟨⟨⟨ds, gs, before, hw, hc⟩, hx⟩, hz⟩ := hpre
  have hw' := DataW.Whole.of_heap (w' := w.forCall tape i) (by rfl) hw
  refine (contract (w.forCall tape i) w.heap.size i.args ds gs before hval hw' (hz.weights hw) (hX _ _ _ (by rfl) hx) hsh).mono fun e W' ⟨v, he, hp⟩ => ?_
  subst he
  exact ChangeSpec.post_blind hp

theorem laid_out : laidOutB Tryz.prog = true := by kernel_rfl
theorem own : ownKnob Tryz.prog.godebug = none := by kernel_rfl

section
variable {P : Program} {W : World}
/-- One of several variables that a row lists. -/
theorem laidVars_at : ∀ (i : Nat) (l : List (String × DataW Unit)) (ps : List MemPlace) (n : String) (d : DataW Unit), DataW.LaidVars P W l ps → l[i]? = some (n, d) →
    ∃ g t cs f p, P.globalNamed n = some g ∧ (P.globals[g]?).map (·.type) = some t ∧ W.var? P n = some cs ∧ DataW.trod (fun _ => ()) P W 0 (fun _ => true) false f t cs.toList = some (d, p)
  | i, [], ps, n, d, _, hn => by simp at hn
  | 0, x :: l, ps, n, d, h, hn => by
    simp at hn
    subst hn
    obtain ⟨g, t, cs, f, p, q, h1, h2, h3, h4, _, _⟩ := h
    exact ⟨g, t, cs, f, p, h1, h2, h3, h4⟩
  | i + 1, x :: l, ps, n, d, h, hn => by
    obtain ⟨g, t, cs, f, p, q, _, _, _, _, hs, _⟩ := h
    exact laidVars_at i l q n d hs (by simpa using hn)
theorem laid_at (i : Nat) {l : List (String × DataW Unit)} {n : String} {d : DataW Unit} (h : laidMetH P l W) (hp : (l.all fun x => x.2.handleName?.isNone) = true) (hn : l[i]? = some (n, d)) :
    ∃ g t cs f p, P.globalNamed n = some g ∧ (P.globals[g]?).map (·.type) = some t ∧ W.var? P n = some cs ∧ DataW.trod (fun _ => ()) P W 0 (fun _ => true) false f t cs.toList = some (d, p) := by
  rw [MakeChecks.laidMetH_plain _ _ _ hp] at h
  obtain ⟨ps, hv, _⟩ := h
  exact laidVars_at i l ps n d hv hn
end

section
variable {H : Type} {enc : TypeId × Value → H} {W : World} {fuel : Nat} {v : Value} {y : DataW H × List MemPlace}
theorem cellsOf_u32 : Tryz.prog.cellsOf 97 = 1 := by kernel_rfl
/-- A slice of 32-bit digits that came in. -/
theorem arr_of_trod (h : DataW.trod enc Tryz.prog W 0 (fun _ => true) true fuel 46 [v] = some y) : ∃ xs, Big.Arr W v xs := by
  rcases open_ints Tryz.underlying46 Tryz.underlying97 cellsOf_u32 h with ⟨hv, _⟩ | ⟨a, len, cap, zs, hv, _, hl, hm, hz, _, hc, hw⟩
  · injection hv with hv
    subst hv
    exact ⟨[], Big.Arr.none_ W⟩
  · injection hv with hv
    subst hv
    simp only [if_true] at hz
    refine ⟨(zs.take len).map Int.toNat, ?_⟩
    have hlen : ((zs.take len).map Int.toNat).length = len := by simp; omega
    have hok : Big.Ok ((zs.take len).map Int.toNat) := fun x hx => by
      obtain ⟨n, hn, rfl⟩ := List.mem_map.1 hx
      have := bounds_u32 (hw n (List.mem_of_mem_take hn))
      omega
    have key := Big.Arr.mk (w := W) (A := some a) (c := cap) hok (by rw [hlen]; exact hl) hm (fun hp => by
      rw [hlen] at hp ⊢
      obtain ⟨b, off, rfl, hcell⟩ := ints_at hc (by omega)
      have h0 := hcell 0 (by omega)
      refine ⟨b, off, rfl, World.block_lt_of_cell? W _ h0, fun j hj => ?_⟩
      rw [hcell j (by omega)]
      have hj2 : j < zs.length := by omega
      have hb := bounds_u32 (hw zs[j] (List.getElem_mem hj2))
      have e1 : zs.getD j 0 = zs[j] := by rw [List.getD_eq_getElem?_getD, List.getElem?_eq_getElem hj2]; rfl
      have e2 : ((zs.take len).map Int.toNat).getD j 0 = zs[j].toNat := by
        rw [List.getD_eq_getElem?_getD, List.getElem?_map, List.getElem?_take_of_lt hj, List.getElem?_eq_getElem hj2]; rfl
      rw [e1, e2]
      unfold Big.d32
      rw [Int.toNat_of_nonneg hb.1])
    rw [hlen] at key
    exact key
theorem bool_of_trod (h : DataW.trod enc Tryz.prog W 0 (fun _ => true) true fuel 4 [v] = some y) : ∃ b, v = .bool b := by
  obtain ⟨b, hb, _⟩ := DataW.trod_bool Tryz.underlying4 h
  injection hb with hb
  exact ⟨b, hb⟩
end
section
variable {H : Type} {enc : TypeId × Value → H} {W : World} {v : Value} {d : DataW H} {p : List MemPlace} {r : Reach} {b0 : Nat}
set_option maxRecDepth 100000 in
theorem open_u32s (hv : Value.okWide Tryz.prog W r b0 46 v) (h : DataW.Trod enc Tryz.prog W 0 (fun _ => true) true 46 v d p) : ∃ xs, Big.Arr W v xs := by
  obtain ⟨a, len, cap, rfl⟩ := okWide_slice Tryz.underlying46 hv
  obtain ⟨fuel, hf⟩ := h
  obtain ⟨xs, hxs⟩ := arr_of_trod (by simpa [Value.cells] using hf)
  exact ⟨xs, hxs⟩
end
theorem byte_of_wf {z : Int} (w : (Lit.int .u8 z).wf = true) : ∃ d : UInt8, z = (d.toNat : Int) := by
  have h := bounds_u8 w
  refine ⟨UInt8.ofNat z.toNat, ?_⟩
  have e : (UInt8.ofNat z.toNat).toNat = z.toNat % 2 ^ 8 := UInt8.toNat_ofNat'
  rw [e, Nat.mod_eq_of_lt (by omega)]
  omega
theorem u64_of_wf {z : Int} (w : (Lit.int .u64 z).wf = true) : ∃ n : Nat, n < 18446744073709551616 ∧ z = (n : Int) := by
  have h := bounds_u64 w
  exact ⟨z.toNat, by omega, by omega⟩
theorem str_of_bytes {s : ByteArray} (h : s.size ≤ maxLen) : ∃ l : List UInt8, l.length ≤ maxLen ∧ s = ⟨l.toArray⟩ := by
  refine ⟨s.data.toList, by simpa using h, ?_⟩
  apply ByteArray.ext
  simp
end Go.Proofs.YtoehdoghghpmjaaGreatDoor
/- What the condition on the listed variables gives the walks of commands. -/
namespace Go.Proofs.YtoehdoghghpmjaaGreatDoor
open Go.ChangeShapes Go.WideShapes Go.ChangeAt Go.RowKit
theorem gSynC : Tryz.prog.globalNamed "strconv.ErrSyntax" = some 4 := by kernel_rfl
theorem tSynC : (Tryz.prog.globals[4]?).map (·.type) = some 111 := by kernel_rfl
theorem gRanC : Tryz.prog.globalNamed "strconv.ErrRange" = some 5 := by kernel_rfl
theorem tRanC : (Tryz.prog.globals[5]?).map (·.type) = some 111 := by kernel_rfl
theorem gPow : Tryz.prog.globalNamed "internal/strconv.uint64pow10" = some 3 := by kernel_rfl
theorem tPow : (Tryz.prog.globals[3]?).map (·.type) = some 148 := by kernel_rfl
theorem cellsPow : Tryz.prog.cellsOf 148 = 20 := by kernel_rfl
theorem cellsU64 : Tryz.prog.cellsOf 73 = 1 := by kernel_rfl
theorem cmdEnv_of_laid {W : World} {l : List (String × DataW Unit)} (i j k : Nat) (h : laidMetH Tryz.prog l W) (hp : (l.all fun x => x.2.handleName?.isNone) = true) (hi : l[i]? = some ("strconv.ErrRange", Rows.laid_strconv_ErrRange)) (hj : l[j]? = some ("strconv.ErrSyntax", Rows.laid_strconv_ErrSyntax)) (hk : l[k]? = some ("internal/strconv.uint64pow10", Rows.laid_internal_strconv_uint64pow10)) : Big.CmdEnv W := by
  have key : ∀ (n : String) (g : Nat) (d : DataW Unit) (k : Nat) (nm : String) (x : DataW Unit), d = .iface nm x → Tryz.prog.globalNamed n = some g → (Tryz.prog.globals[g]?).map (·.type) = some 111 → l[k]? = some (n, d) → Big.ErrC W g := by
    rintro n g d k nm x rfl hg ht hk
    obtain ⟨g1, t1, cs1, f1, p1, hg1, ht1, hv1, hd1⟩ := laid_at k h hp hk
    obtain rfl := Option.some.inj (hg.symm.trans hg1)
    obtain rfl := Option.some.inj (ht.symm.trans ht1)
    obtain ⟨_, u, v, hcs, _, _⟩ := iface_of_trod Tryz.underlying111 hd1
    have hc := World.var?_cell hg1 hv1 0
    have h0 : cs1[0]? = some (.iface u v) := by
      rw [← Array.getElem?_toList, hcs]
      rfl
    rw [h0] at hc
    exact ⟨_, hc, .inr ⟨u, v, rfl⟩⟩
  refine ⟨key _ _ _ j _ _ rfl gSynC tSynC hj, key _ _ _ i _ _ rfl gRanC tRanC hi, ?_⟩
  obtain ⟨g1, t1, cs1, f1, p1, hg1, ht1, hv1, hd1⟩ := laid_at k h hp hk
  obtain rfl := Option.some.inj (gPow.symm.trans hg1)
  obtain rfl := Option.some.inj (tPow.symm.trans ht1)
  have hcs := Lib.cells_of_tab (zs := Lib.pow10Tab) (k := .u64) Tryz.underlying148 Tryz.underlying73 cellsU64 cellsPow (show DataW.trod _ Tryz.prog W 0 _ false f1 148 cs1.toList = some (Lib.tabData .u64 Lib.pow10Tab, p1) from hd1)
  show W.var? Tryz.prog "internal/strconv.uint64pow10" = some _
  rw [hv1]
  congr 1
  apply Array.ext'
  rw [hcs]
end Go.Proofs.YtoehdoghghpmjaaGreatDoor
/- A list of integers that came in. -/
namespace Go.Proofs.YtoehdoghghpmjaaGreatDoor
open Go.ChangeShapes Go.WideShapes Go.ChangeAt Go.RowKit
theorem cellsOf_i64 : Tryz.prog.cellsOf 3 = 1 := by kernel_rfl
section
variable {H : Type} {enc : TypeId × Value → H} {W : World} {v : Value} {d : DataW H} {p : List MemPlace} {r : Reach} {b0 : Nat}
theorem nums_of_trod {fuel : Nat} {y : DataW H × List MemPlace} (h : DataW.trod enc Tryz.prog W 0 (fun _ => true) true fuel 22 [v] = some y) : ∃ xs, Big.ArrI W v xs := by
  rcases open_ints Tryz.underlying22 Tryz.underlying3 cellsOf_i64 h with ⟨hv, _⟩ | ⟨a, len, cap, zs, hv, _, hl, hm, hz, _, hc, hw⟩
  · injection hv with hv
    subst hv
    exact ⟨[], ⟨(fun x hx => by cases hx), Big.RArr.none_ W⟩⟩
  · injection hv with hv
    subst hv
    simp only [if_true] at hz
    refine ⟨zs.take len, fun x hx => bounds_i64 (hw x (List.mem_of_mem_take hx)), some a, cap, by simp; omega, by simp; omega, hm, fun hp => ?_⟩
    simp only [List.length_map, List.length_take] at hp
    obtain ⟨b, off, rfl, hcell⟩ := ints_at hc (by omega)
    have h0 := hcell 0 (by omega)
    refine ⟨b, off, rfl, World.block_lt_of_cell? W _ h0, fun j u hj => ?_⟩
    rw [List.getElem?_map] at hj
    have hjl : j < len := by
      rcases Nat.lt_or_ge j len with h | h
      · exact h
      · rw [List.getElem?_eq_none (by simp; omega)] at hj; cases hj
    have hj2 : j < zs.length := by omega
    rw [List.getElem?_take_of_lt hjl, List.getElem?_eq_getElem hj2] at hj
    injection hj with hj
    subst hj
    rw [hcell j (by omega)]
    have e1 : zs.getD j 0 = zs[j] := by rw [List.getD_eq_getElem?_getD, List.getElem?_eq_getElem hj2]; rfl
    rw [e1]
    rfl
set_option maxRecDepth 100000 in
theorem open_nums (hv : Value.okWide Tryz.prog W r b0 22 v) (h : DataW.Trod enc Tryz.prog W 0 (fun _ => true) true 22 v d p) : ∃ xs, Big.ArrI W v xs := by
  obtain ⟨a, len, cap, rfl⟩ := okWide_slice Tryz.underlying22 hv
  obtain ⟨fuel, hf⟩ := h
  obtain ⟨xs, hxs⟩ := nums_of_trod (by simpa [Value.cells] using hf)
  exact ⟨xs, hxs⟩
end
end Go.Proofs.YtoehdoghghpmjaaGreatDoor
