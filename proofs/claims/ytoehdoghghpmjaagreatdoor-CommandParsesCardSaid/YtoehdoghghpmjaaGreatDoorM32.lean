import Derived.Test.YtoehdoghghpmjaaGreatDoorM31
import Derived.Test.YtoehdoghghpmjaaGreatDoorM20
import Derived.Test.YtoehdoghghpmjaaGreatDoorM18
/- CommandBack. -/
namespace Go.Proofs.YtoehdoghghpmjaaGreatDoor
namespace Big
open Go.RowKit
def wideC (p : Nat) (fs : List UInt8) : List UInt8 := List.replicate p 32 ++ (fs ++ [32, 32])
theorem wideC_len (p : Nat) (fs : List UInt8) : (wideC p fs).length = p + fs.length + 2 := by unfold wideC; simp; omega
theorem name_format {c : Cmd} (h : validC c = true) : (nameC c.op).length ≤ (formatC c).length := by
  rw [format_split h]; simp
theorem spaces3 (p : Nat) (hp : p ≤ 3) : ([32, 32, 32] : List UInt8).take p = List.replicate p 32 := by
  have : p = 0 ∨ p = 1 ∨ p = 2 ∨ p = 3 := by omega
  rcases this with rfl | rfl | rfl | rfl <;> rfl
theorem name_short (op : Int) : (nameC op).length ≤ 9 := by
  unfold nameC
  split
  · rename_i h
    obtain ⟨k, rfl⟩ := Int.eq_ofNat_of_zero_le h.1
    exact (show ∀ k : Fin 22, (cmdNames.getD k.val []).length ≤ 9 by decide +kernel) ⟨k, by omega⟩
  · simp
theorem format_short {c : Cmd} (h : validC c = true) : (formatC c).length ≤ 440 := by
  have hn := name_short c.op
  obtain ⟨_, h2, h3, h4, h5⟩ := valid_parts h
  rw [format_split h, List.length_append, List.length_append, List.length_replicate]
  have hg : gapC c ≤ 1 := by unfold gapC; split <;> omega
  have hr : (restC c).length ≤ 430 := by
    unfold restC
    rcases shape_six c.op with e | e | e | e | e | e
    all_goals simp only [e] at h2 h3 h4 h5 ⊢
    · simp
    · simp at h2
      have := wordB_le h2
      simp; omega
    · simp at h2 h5
      have := wordB_le h2
      have := dec_small (n := c.n.toNat) (by omega)
      simp; omega
    · simp at h2 h3
      have := wordB_le h2
      have := wordB_le h3
      simp; omega
    · simp at h5
      have := dec_small (n := c.n.toNat) (by omega)
      simp; omega
    · simp at h2 h4
      have := wordB_le h2
      have ht : c.text.length ≤ 400 := by
        unfold textB at h4
        simp only [Bool.and_eq_true, decide_eq_true_eq] at h4
        exact h4.1.1.1.2
      simp; omega
  omega
/-- mill.New, the tape's block any. -/
theorem newX_any (w : World) (v : Value) (l : List Int) (h : ArrI w v l) (hn : l.length ≤ 1000000) : Calls Tryz.prog 8 #[v] w fun e w' => ∃ g, e = .returned (.pointer (some ⟨g, 0, none⟩)) ∧ TapeAt w'.heap.size g w' v l 0 ∧ Ext w w' ∧ w.heap.size ≤ g :=
  (new_any w v l h hn).mono fun _ _ ⟨h1, h2, h3, h4⟩ => ⟨w.heap.size, h1, by rw [h4]; exact h2, h3, Nat.le_refl _⟩
theorem spaces_cut (p : Nat) (hp : p ≤ 3) (W : World) : (Instr.slice 9 (.string ⟨#[32, 32, 32]⟩) none (some (.int .i64 (p : Int))) none).run Tryz.prog W = .ok (str (List.replicate p 32)) W := by
  have h := run_slice_str_to [32, 32, 32] .i64 (p : Int) W
  rw [if_pos ⟨by omega, by simp; omega⟩, Int.toNat_natCast, spaces3 p hp] at h
  exact h
set_option maxHeartbeats 8000000 in
set_option maxRecDepth 100000 in
theorem commandBack_any (w : World) (c : Cmd) (v : Value) (l : List Int) (gp : Int) (h : ArrI w v l) (hf1 : -9223372036854775808 ≤ gp) (hf2 : gp ≤ 9223372036854775807) (hm : MaxV w) (hE : CmdEnv w) :
    Calls Tryz.prog 5 #[cmdV c, v, .int .i64 gp] w fun e w' => e = .returned (.bool true) ∧ Ext w w' := by
  have HAW := Lib.hid (fun W hx => awake31_any W (hm.ext (w' := W) hx) (hE.ext hx))
  have HE := Lib.hid hE
  have HM := Lib.hid hm
  have HL := Lib.hid h
  have HLT := Lib.hid (fun W hx => light_any W v l (HL.out.ext hx))
  have HSH := Lib.hid (fun W => short_any W c)
  have HMP := Lib.hid (fun W => mod_any W gp 4 hf1 hf2 (by decide) (by decide))
  have hq1 := Int.emod_nonneg gp (show (4 : Int) ≠ 0 by decide)
  have hq2 := Int.emod_lt_of_pos gp (show (0 : Int) < 4 by decide)
  generalize gp % 4 = q at *
  obtain ⟨p, rfl⟩ := Int.eq_ofNat_of_zero_le hq1
  have hp3 : p ≤ 3 := by omega
  obtain ⟨A0, c0, rfl, _⟩ := h.open
  have HSC : Hid (shortC c = true → SmallC c) := Lib.hid (fun hs => by
    unfold shortC at hs
    simp only [Bool.and_eq_true, decide_eq_true_eq] at hs
    exact ⟨by omega, by omega, by omega⟩)
  have HBB := Lib.hid (Blk.new w 31 #[.int .i64 c.op, str c.name, str c.other, str c.text, .int .i64 c.n])
  have HXB := Lib.hid ((Ext.refl w).alloc (.cells #[.int .i64 c.op, str c.name, str c.other, str c.text, .int .i64 c.n] 31))
  clear h hm hE hq1 hq2
  unfold cmdV at HSH ⊢
  generalize hsh : shortC c = sh at *
  go_enter Tryz.func5, Tryz.ntmps5
  go_upto_region 1 with fail
  have hgb0 : w.heap.size ≤ w.heap.size := Nat.le_refl _
  generalize w.alloc (.cells #[.int .i64 c.op, str c.name, str c.other, str c.text, .int .i64 c.n] 31) = wb at *
  obtain ⟨gb, hgb⟩ : ∃ gb, gb = w.heap.size := ⟨_, rfl⟩
  rw [← hgb] at HBB ⊢
  have HGB : Hid (w.heap.size ≤ gb) := Lib.hid (by omega)
  clear hgb hgb0
  go_wp2_with fail
  refine (HAW.out _ HXB.out).mono ?_
  rintro e w1 ⟨rfl, hx1⟩
  have HX1 := Lib.hid (HXB.out.trans hx1)
  have HB1 := Lib.hid (HBB.out.ext hx1)
  clear hx1 HXB HBB
  have r0 := HB1.out.cell 0
  have r1 := HB1.out.cell 1
  have r2 := HB1.out.cell 2
  have r3 := HB1.out.cell 3
  have r4 := HB1.out.cell 4
  go_wp2_with fail
  refine (HSH.out _).mono ?_
  rintro e w2 ⟨rfl, hx2⟩
  have HX2 := Lib.hid (HX1.out.trans hx2)
  have HB2 := Lib.hid (HB1.out.ext hx2)
  clear hx2 HX1 HB1 r0 r1 r2 r3 r4
  cases sh
  · go_wp2_with fail
    go_ret
    exact ⟨rfl, HX2.out⟩
  have HSM := Lib.hid (HSC.out rfl)
  clear HSC
  by_cases hlt : 120 < l.length
  · have hd : decide (l.length ≤ 120) = false := decide_eq_false (by omega)
    rw [hd] at HLT
    clear hlt hd
    go_wp2_with fail
    refine (HLT.out _ HX2.out).mono ?_
    rintro e w3 ⟨rfl, rfl⟩
    go_wp2_with fail
    go_ret
    exact ⟨rfl, HX2.out⟩
  have hd : decide (l.length ≤ 120) = true := decide_eq_true (by omega)
  rw [hd] at HLT
  have hll : l.length ≤ 120 := by omega
  clear hlt hd
  go_wp2_with fail
  refine (HLT.out _ HX2.out).mono ?_
  rintro e w3 ⟨rfl, rfl⟩
  go_upto_region 5 with fail
  clear HLT
  go_cut [30, 31, 32] from 26 to 32 (fun s30 s31 s32 wx => ∃ (gs : Nat) (cc : Cmd), s30 = .slice (some ⟨gs, 0, none⟩) 2 2 ∧ s31 = .int .i64 2 ∧ s32 = .int .i64 0 ∧ SmallC cc ∧ CmdsAt wx gs [c, cc] ∧ Ext w wx)
  case first =>
    obtain ⟨x1, hx1⟩ : ∃ t, str c.name = .string t := ⟨_, rfl⟩
    obtain ⟨x2, hx2⟩ : ∃ t, str c.other = .string t := ⟨_, rfl⟩
    obtain ⟨x3, hx3⟩ : ∃ t, str c.text = .string t := ⟨_, rfl⟩
    have HBD := Lib.hid (HB2.out.drew)
    rw [hx1, hx2, hx3] at HBD
    have HXN := Lib.hid (And.intro hx1 (And.intro hx2 hx3))
    clear hx1 hx2 hx3 HB2
    have HXD := Lib.hid (HX2.out.trans (Ext.refl w2).drew)
    have HN1 := Lib.hid (newX_any w2.drew _ l (HL.out.ext HXD.out) (by omega))
    have hr0 := HBD.out.cell 0
    have hr1 := HBD.out.cell 1
    have hr2 := HBD.out.cell 2
    have hr3 := HBD.out.cell 3
    have hr4 := HBD.out.cell 4
    go_region_with (first
      | (go_at_call 8; refine HN1.out.mono ?_; rintro e w3 ⟨g3, rfl, ht3, hx3, hg3⟩; have HT3 := Lib.hid ht3; have HX3 := Lib.hid (HXD.out.trans hx3); have HB3 := Lib.hid (HBD.out.ext hx3); have HG3 : Hid (gb < g3 ∧ w.heap.size ≤ g3) := Lib.hid ⟨Nat.lt_of_lt_of_le HBD.out.lt hg3, Nat.le_trans HXD.out.size hg3⟩; have t0 := HB3.out.cell 0; have t1 := HB3.out.cell 1; have t2 := HB3.out.cell 2; have t3 := HB3.out.cell 3; have t4 := HB3.out.cell 4; clear ht3 hx3 hg3)
      | (go_at_call 10; refine (command_any w3 g3 _ l 0 600 HT3.out (by decide) (by decide)).mono ?_; rintro e w4 ⟨cc, a4, rfl, l1, l2, l3, _, hk4⟩; have HX4 := Lib.hid (hk4.to_ext HX3.out HX3.out.size HG3.out.2); have HB4 := Lib.hid (hk4.blk HB3.out HB3.out.lt (by have := HG3.out.1; omega)); have HSC : Hid (SmallC cc) := Lib.hid ⟨by omega, by omega, by omega⟩; have v0 := HB4.out.cell 0; have v1 := HB4.out.cell 1; have v2 := HB4.out.cell 2; have v3 := HB4.out.cell 3; have v4 := HB4.out.cell 4; clear l1 l2 l3 hk4; obtain ⟨y1, hy1⟩ : ∃ t, str cc.name = .string t := ⟨_, rfl⟩; obtain ⟨y2, hy2⟩ : ∃ t, str cc.other = .string t := ⟨_, rfl⟩; obtain ⟨y3, hy3⟩ : ∃ t, str cc.text = .string t := ⟨_, rfl⟩; unfold cmdV; rw [hy1, hy2, hy3]; have HYN := Lib.hid (And.intro hy1 (And.intro hy2 hy3)); clear hy1 hy2 hy3))
    all_goals
      go_wp2_with fail
      go_meet
      have hat := cmds_two (a := c) (b := cc) (Blk.new w4 31 _)
      rw [HXN.out.1, HXN.out.2.1, HXN.out.2.2, HYN.out.1, HYN.out.2.1, HYN.out.2.2] at hat
      exact ⟨w4.heap.size, cc, rfl, rfl, rfl, HSC.out, hat, HX4.out.alloc _⟩
  case rest =>
  obtain ⟨gs, cc, rfl, rfl, rfl, hsc, hat, hxw⟩ := hcut
  have HALL : Hid (∀ x ∈ [c, cc], SmallC x) := Lib.hid (by
    intro x hx
    simp only [List.mem_cons, List.not_mem_nil, or_false] at hx
    rcases hx with rfl | rfl
    · exact HSM.out
    · exact hsc)
  have HS := Lib.hid hat
  have HX := Lib.hid hxw
  obtain ⟨cs, hcs⟩ : ∃ cs, cs = [c, cc] := ⟨_, rfl⟩
  rw [← hcs] at HS HALL
  have hc2 : cs.length = 2 := by rw [hcs]; rfl
  clear hcs hsc hat hxw HB2
  generalize wc = wy at *
  go_wp2_with fail
  go_loopw [32] (fun s32 wq => ∃ i : Nat, i ≤ 2 ∧ s32 = .int .i64 (i : Int) ∧ Ext wy wq) (fun s32 _ => 2 - (intOf s32).toNat)
  case atStart => exact ⟨0, by omega, rfl, Ext.refl _⟩
  case round =>
    obtain ⟨i, hi, rfl, hext⟩ := hrel
    have HX7 := Lib.hid (HX.out.trans hext)
    have HEX := Lib.hid hext
    by_cases hlt : i < 2
    · have hki : (i : Int) < 2 := by omega
      obtain ⟨hz, hall⟩ := HS.out.ext hext
      obtain ⟨k0, k1, k2, k3, k4⟩ := hall i (by omega)
      have HY := Lib.hid (HALL.out _ (List.getElem_mem (show i < cs.length by omega)))
      clear hext hall
      generalize cs[i] = x at *
      obtain ⟨nb, hnb⟩ : ∃ t, str x.name = .string t := ⟨_, rfl⟩
      obtain ⟨ob, hob⟩ : ∃ t, str x.other = .string t := ⟨_, rfl⟩
      obtain ⟨tb, htb⟩ : ∃ t, str x.text = .string t := ⟨_, rfl⟩
      have hcv : cmdV x = .agg #[.int .i64 x.op, .string nb, .string ob, .string tb, .int .i64 x.n] := by unfold cmdV; rw [hnb, hob, htb]
      have V1 := Lib.hid (fun W => cvalid_any W x (by have := HY.out.1; omega) (by have := HY.out.2.1; omega) (by have := HY.out.2.2; omega))
      have F1 := Lib.hid (fun W hx => cformat_any W x (by have := HY.out.1; omega) (by have := HY.out.2.1; omega) (by have := HY.out.2.2; omega) (HE.out.ext (w' := W) hx))
      have PB : Hid (validC x = true → ∀ W, Ext w W → Calls Tryz.prog 12 #[str (formatC x)] W fun e w' => e = .returned (.tuple #[cmdV x, .int .i64 0]) ∧ Ext W w') := Lib.hid (fun hv W hx => by
        have h1 := format_short hv
        have h2 := cparse_any W (formatC x) (by omega) (HM.out.ext hx) (HE.out.ext hx)
        rw [line_back hv (by omega)] at h2
        exact h2)
      have PW : Hid (validC x = true → ∀ W, Ext w W → Calls Tryz.prog 12 #[str ((wideC p (formatC x)).take ((nameC x.op).length + p) ++ [32] ++ (wideC p (formatC x)).drop ((nameC x.op).length + p))] W fun e w' => e = .returned (.tuple #[cmdV x, .int .i64 0]) ∧ Ext W w') := Lib.hid (fun hv W hx => by
        have h1 := format_short hv
        have h3 := wideC_len p (formatC x)
        have h2 := cparse_any W ((wideC p (formatC x)).take ((nameC x.op).length + p) ++ [32] ++ (wideC p (formatC x)).drop ((nameC x.op).length + p)) (by simp; omega) (HM.out.ext hx) (HE.out.ext hx)
        rw [line_wide2 hv p (wideC p (formatC x)) rfl (by omega)] at h2
        exact h2)
      have NM := Lib.hid (fun W => rname31_any W x.op)
      have HLN : Hid (validC x = true → (formatC x).length ≤ 440 ∧ (nameC x.op).length ≤ (formatC x).length) := Lib.hid (fun hv => ⟨format_short hv, name_format hv⟩)
      rw [hcv] at V1 F1 PB PW
      rw [hnb] at k1
      rw [hob] at k2
      rw [htb] at k3
      have HD := Lib.hid (Blk.new wr 31 #[.int .i64 x.op, .string nb, .string ob, .string tb, .int .i64 x.n])
      have HXD := Lib.hid ((Ext.refl wr).alloc (.cells #[.int .i64 x.op, .string nb, .string ob, .string tb, .int .i64 x.n] 31))
      generalize validC x = vb at *
      generalize formatC x = fs at *
      generalize nameC x.op = nm at *
      generalize x.op = xo at *
      generalize x.n = xn at *
      clear hcv hnb hob htb HY
      go_upto_region 8 with fail
      have HXWD := Lib.hid (HX7.out.trans HXD.out)
      have HEWD := Lib.hid (HEX.out.trans HXD.out)
      generalize wr.alloc (.cells #[.int .i64 xo, .string nb, .string ob, .string tb, .int .i64 xn] 31) = wd at *
      generalize wr.heap.size = gx at *
      have d0 := HD.out.cell 0
      have d1 := HD.out.cell 1
      have d2 := HD.out.cell 2
      have d3 := HD.out.cell 3
      have d4 := HD.out.cell 4
      have dz := HD.out.lt
      clear k0 k1 k2 k3 k4 hz
      go_wp2_with fail
      refine (V1.out _).mono ?_
      rintro e w3 ⟨rfl, hx3⟩
      have HE3 := Lib.hid (HEWD.out.trans hx3)
      have HX3 := Lib.hid (HXWD.out.trans hx3)
      have HD3 := Lib.hid (HD.out.ext hx3)
      clear hx3 d0 d1 d2 d3 d4 dz HD V1
      cases vb
      · go_wp2_with fail
        go_roundw
        case rel => exact ⟨i + 1, by omega, by go_num, HE3.out⟩
        case measure => simp [intOf]; omega
      have PB2 := Lib.hid (PB.out rfl)
      have PW2 := Lib.hid (PW.out rfl)
      obtain ⟨hfl, hnl⟩ := HLN.out rfl
      have h5 : ¬ (500 : Int) < (fs.length : Int) := by omega
      clear PB PW HLN
      have d0 := HD3.out.cell 0
      have d1 := HD3.out.cell 1
      have d2 := HD3.out.cell 2
      have d3 := HD3.out.cell 3
      have d4 := HD3.out.cell 4
      have dz := HD3.out.lt
      go_wp2_with fail
      refine (F1.out _ HX3.out).mono ?_
      rintro e w4 ⟨rfl, hx4⟩
      have HE4 := Lib.hid (HE3.out.trans hx4)
      have HX4 := Lib.hid (HX3.out.trans hx4)
      have HD4 := Lib.hid (HD3.out.ext hx4)
      clear hx4 d0 d1 d2 d3 d4 dz HD3 F1 HE3 HX3
      go_wp2_with fail
      refine (PB2.out _ HX4.out).mono ?_
      rintro e w5 ⟨rfl, hx5⟩
      have HA5 := Lib.hid ((Ext.refl w5).alloc (.cells #[.int .i64 xo, .string nb, .string ob, .string tb, .int .i64 xn] 31))
      have HB5 := Lib.hid (Blk.new w5 31 #[.int .i64 xo, .string nb, .string ob, .string tb, .int .i64 xn])
      have HE5 := Lib.hid ((HE4.out.trans hx5).trans HA5.out)
      have HX5 := Lib.hid ((HX4.out.trans hx5).trans HA5.out)
      have HD5 := Lib.hid ((HD4.out.ext hx5).ext HA5.out)
      clear hx5 HD4 HE4 HX4 PB2 HA5
      go_upto_region 11 with fail
      generalize w5.alloc (.cells #[.int .i64 xo, .string nb, .string ob, .string tb, .int .i64 xn] 31) = w6 at *
      generalize w5.heap.size = gy at *
      have d0 := HD5.out.cell 0
      have d1 := HD5.out.cell 1
      have d2 := HD5.out.cell 2
      have d3 := HD5.out.cell 3
      have d4 := HD5.out.cell 4
      have dz := HD5.out.lt
      have b0 := HB5.out.cell 0
      have b1 := HB5.out.cell 1
      have b2 := HB5.out.cell 2
      have b3 := HB5.out.cell 3
      have b4 := HB5.out.cell 4
      have bz := HB5.out.lt
      go_wp2_with fail
      refine (HMP.out _).mono ?_
      rintro e w7 ⟨rfl, rfl⟩
      have hcut3 := fun W => spaces_cut p hp3 W
      obtain ⟨f, hf⟩ : ∃ f, f = nm.length + p := ⟨_, rfl⟩
      have hw1 : IntKind.i64.wrap ((nm.length : Int) + (p : Int)) = (f : Int) := by rw [IntWalk.i64_in _ (by omega)]; omega
      rw [← hf] at PW2
      have hwl := wideC_len p fs
      have ha1 : ∀ W : World, (binOp .add 9 (str (List.replicate p 32)) (str fs)).run Tryz.prog W = .ok (str (List.replicate p 32 ++ fs)) W := fun W => run_add_str _ _ (by simp; omega) W
      have ha2 : ∀ W : World, (binOp .add 9 (str (List.replicate p 32 ++ fs)) (.string ⟨#[32, 32]⟩)).run Tryz.prog W = .ok (str (wideC p fs)) W := fun W => by
        have := run_add_str (List.replicate p 32 ++ fs) [32, 32] (by simp; omega) W
        rw [List.append_assoc] at this
        exact this
      generalize wideC p fs = wd2 at *
      generalize List.replicate p 32 ++ fs = ws at *
      have hfw : (f : Int) ≤ (wd2.length : Int) := by omega
      have hfw2 : ¬ (wd2.length : Int) < (f : Int) := by omega
      have hf0 : (0 : Int) ≤ (f : Int) := by omega
      have ha3 : ∀ W : World, (binOp .add 9 (str (wd2.take f)) (.string ⟨#[32]⟩)).run Tryz.prog W = .ok (str (wd2.take f ++ [32])) W := fun W => run_add_str _ [32] (by simp; omega) W
      have ha4 : ∀ W : World, (binOp .add 9 (str (wd2.take f ++ [32])) (str (wd2.drop f))).run Tryz.prog W = .ok (str (wd2.take f ++ [32] ++ wd2.drop f)) W := fun W => run_add_str _ _ (by simp; omega) W
      have HZL : Hid ((wd2.take f ++ [32] ++ wd2.drop f).length ≤ 500) := Lib.hid (by simp; omega)
      rw [List.append_assoc, List.singleton_append] at PW2 HZL
      clear hwl hf hfl hnl
      go_wp2_with fail
      refine (NM.out _).mono ?_
      rintro e w8 ⟨rfl, hx8⟩
      have HE8 := Lib.hid (HE5.out.trans hx8)
      have HX8 := Lib.hid (HX5.out.trans hx8)
      have HD8 := Lib.hid (HD5.out.ext hx8)
      clear hx8 d0 d1 d2 d3 d4 dz b0 b1 b2 b3 b4 bz HD5 HB5 HX5 HE5
      go_wp2_with fail
      refine (HMP.out _).mono ?_
      rintro e w9 ⟨rfl, rfl⟩
      go_wp2_with fail
      go_quiet (fail)
      go_wp2_with fail
      have HEQ := Lib.hid (HE8.out.trans ((Ext.refl w8).drewN nq))
      have HXQ := Lib.hid (HX8.out.trans ((Ext.refl w8).drewN nq))
      have HDQ := Lib.hid (HD8.out.drewN nq)
      generalize w8.drewN nq = wq at *
      refine (PW2.out _ HXQ.out).mono ?_
      rintro e w10 ⟨rfl, hx10⟩
      have HA10 := Lib.hid ((Ext.refl w10).alloc (.cells #[.int .i64 xo, .string nb, .string ob, .string tb, .int .i64 xn] 31))
      have HB10 := Lib.hid (Blk.new w10 31 #[.int .i64 xo, .string nb, .string ob, .string tb, .int .i64 xn])
      have HE10 := Lib.hid ((HEQ.out.trans hx10).trans HA10.out)
      have HD10 := Lib.hid ((HDQ.out.ext hx10).ext HA10.out)
      have hzl : ((wd2.take f ++ 32 :: wd2.drop f).length : Int) ≤ 500 := by have := HZL.out; omega
      generalize wd2.take f ++ 32 :: wd2.drop f = zz at *
      clear hx10 HDQ HEQ HXQ PW2
      go_upto_region 22 with fail
      generalize w10.alloc (.cells #[.int .i64 xo, .string nb, .string ob, .string tb, .int .i64 xn] 31) = w11 at *
      generalize w10.heap.size = gz at *
      have d0 := HD10.out.cell 0
      have d1 := HD10.out.cell 1
      have d2 := HD10.out.cell 2
      have d3 := HD10.out.cell 3
      have d4 := HD10.out.cell 4
      have dz := HD10.out.lt
      have b0 := HB10.out.cell 0
      have b1 := HB10.out.cell 1
      have b2 := HB10.out.cell 2
      have b3 := HB10.out.cell 3
      have b4 := HB10.out.cell 4
      have bz := HB10.out.lt
      go_wp2_with fail
      go_roundw
      case rel => exact ⟨i + 1, by omega, by go_num, HE10.out⟩
      case measure => simp [intOf]; omega
    · obtain rfl : i = 2 := by omega
      go_wp2_with fail
      go_ret
      exact ⟨rfl, HX7.out⟩
end Big
end Go.Proofs.YtoehdoghghpmjaaGreatDoor
/- The document's Uint and Int. -/
namespace Go.Proofs.YtoehdoghghpmjaaGreatDoor
namespace Big
open Go.RowKit
theorem limbs_three {n : Nat} (h : 3 ≤ (limbs n).length) : 18446744073709551616 ≤ n := by
  by_cases h0 : n = 0
  · subst h0; rw [limbs_zero] at h; simp at h
  rw [limbs_pos n h0, List.length_cons] at h
  by_cases h1 : n / 4294967296 = 0
  · rw [h1, limbs_zero] at h; simp at h
  rw [limbs_pos _ h1, List.length_cons] at h
  by_cases h2 : n / 4294967296 / 4294967296 = 0
  · rw [h2, limbs_zero] at h; simp at h
  omega
set_option maxHeartbeats 1000000 in
set_option maxRecDepth 100000 in
theorem ruint_any (w : World) (v : Value) (n : Nat) (h : Arr w v (limbs n)) (hn : (limbs n).length ≤ 1073741824) :
    Calls Tryz.prog 59 #[v] w fun e w' => ((n < 18446744073709551616 ∧ e = .returned (.tuple #[.int .u64 (n : Int), .bool true])) ∨ (18446744073709551616 ≤ n ∧ e = .returned (.tuple #[.int .u64 0, .bool false]))) ∧ w = w' := by
  have hv := val_limbs n
  have h3 : 3 ≤ (limbs n).length → 18446744073709551616 ≤ n := limbs_three
  obtain ⟨xs, hxs⟩ : ∃ xs, xs = limbs n := ⟨_, rfl⟩
  rw [← hxs] at h hn hv h3
  clear hxs
  obtain ⟨hok, A, c, rfl, hc, hm, hcell⟩ := h.open
  have HCELL := Lib.hid hcell
  have HOK := Lib.hid hok
  have HV := Lib.hid hv
  have H3 := Lib.hid h3
  clear h hcell hok hv hm hc h3
  go_enter Tryz.func59, Tryz.ntmps59
  go_wp2_with fail
  go_loop [4, 9] (fun s4 s9 => ∃ i : Nat, i ≤ xs.length ∧ i ≤ 2 ∧ s9 = .int .i64 (i : Int) ∧ s4 = .int .u64 ((val (xs.take i) : Nat) : Int)) (fun _ s9 => xs.length - (intOf s9).toNat)
  case atStart => exact ⟨0, Nat.zero_le _, by omega, rfl, rfl⟩
  case round =>
    obtain ⟨i, hi, hi2, rfl, rfl⟩ := hrel
    by_cases hlt : i < xs.length
    · obtain ⟨b, o, rfl, hb, hcc⟩ := HCELL.out (by omega)
      have hx := hcc i hlt
      have hxlt : xs.getD i 0 < 4294967296 := HOK.out.get i
      have HVS := Lib.hid (val_take_succ xs i hlt)
      have hvt := val_take_lt HOK.out i
      generalize xs.getD i 0 = x at *
      generalize val (xs.take i) = V at *
      simp only [d32] at hx
      clear hcc
      have hil : (i : Int) < (xs.length : Int) := by omega
      have hi012 : i = 0 ∨ i = 1 ∨ i = 2 := by omega
      rcases hi012 with rfl | rfl | rfl
      · have e1 : IntKind.u64.wrap (x : Int) = (x : Int) := IntWalk.u64_in _ (by omega)
        have hV0 : V = 0 := by simpa using hvt
        rw [Nat.add_zero] at hx
        subst hV0
        go_wp2_with fail
        go_round
        case rel => exact ⟨1, by omega, by omega, by go_num, by rw [HVS.out]; simp⟩
        case measure => simp [intOf]; omega
      · rw [Nat.pow_one] at hvt HVS
        have e1 : IntKind.u64.wrap (x : Int) = (x : Int) := IntWalk.u64_in _ (by omega)
        have e2 : IntKind.u64.wrap ((x : Int) * 4294967296) = (x : Int) * 4294967296 := IntWalk.u64_in _ (by omega)
        have e3 : IntKind.u64.wrap ((V : Int) + (x : Int) * 4294967296) = (V : Int) + (x : Int) * 4294967296 := IntWalk.u64_in _ (by omega)
        go_wp2_with fail
        go_round
        case rel => exact ⟨2, by omega, by omega, by go_num, by rw [HVS.out]; simp; omega⟩
        case measure => simp [intOf]; omega
      · have HB : Hid (18446744073709551616 ≤ n) := Lib.hid (H3.out (by omega))
        go_wp2_with fail
        go_ret2
        exact ⟨.inr ⟨HB.out, rfl⟩, rfl⟩
    · obtain rfl : i = xs.length := by omega
      have hvt := val_take_lt HOK.out xs.length
      rw [List.take_length] at hvt
      rw [List.take_length, HV.out]
      have HB : Hid (n < 18446744073709551616) := Lib.hid (by
        rw [HV.out] at hvt
        have := Nat.pow_le_pow_right (show 1 ≤ 4294967296 by omega) hi2
        have e : (4294967296 : Nat) ^ 2 = 18446744073709551616 := by decide
        omega)
      clear hvt
      go_wp2_with fail
      go_ret2
      exact ⟨.inl ⟨HB.out, rfl⟩, rfl⟩
/-- What Int returns. -/
def RIntRes (z : Int) (v : Int) (ok : Bool) : Prop := (0 ≤ z → z ≤ 9223372036854775807 → ok = true ∧ v = z) ∧ (9223372036854775807 < z → ok = false) ∧ (z < 0 → ok = true → v < 0)
set_option maxHeartbeats 1000000 in
set_option maxRecDepth 100000 in
theorem rint_any (w : World) (v : Value) (z : Int) (h : ArrInt w v z) (hn : (limbs z.natAbs).length ≤ 1073741824) :
    Calls Tryz.prog 35 #[v] w fun e w' => ∃ (u : Int) (ok : Bool), e = .returned (.tuple #[.int .i64 u, .bool ok]) ∧ RIntRes z u ok ∧ Ext w w' := by
  have HA := Lib.hid h
  obtain ⟨m, rfl, hm⟩ := h
  have HU := Lib.hid (fun W hx => ruint_any W m z.natAbs (hm.ext (w' := W) hx) hn)
  obtain ⟨nl, A, c, rfl⟩ := hm.shape
  clear hn hm
  by_cases hz : z < 0
  · have hzd : decide (z < 0) = true := decide_eq_true hz
    rw [hzd]
    have HZ := Lib.hid hz
    obtain ⟨n, hn⟩ : ∃ n, n = z.natAbs := ⟨_, rfl⟩
    have HN := Lib.hid hn
    have hn0 : 0 < n := by omega
    rw [← hn] at HU
    clear HA hzd hz hn
    go_enter Tryz.func35, Tryz.ntmps35
    go_wp2_with fail
    refine (HU.out _ ((Ext.refl w).alloc _)).mono ?_
    rintro e w1 ⟨⟨hb, rfl⟩ | ⟨hb, rfl⟩, rfl⟩
    · have HX := Lib.hid ((Ext.refl w).alloc (.cells #[Value.bool true, Value.slice A nl c] 48))
      by_cases hr : 9223372036854775808 < n
      · have h1 : (9223372036854775808 : Int) < (n : Int) := by omega
        clear hr
        go_wp2_with fail
        go_ret2
        exact ⟨_, _, rfl, ⟨fun h => absurd HZ.out (by omega), fun _ => rfl, fun _ h => (by cases h)⟩, HX.out⟩
      · have h1 : ¬ (9223372036854775808 : Int) < (n : Int) := by omega
        have e1 : IntKind.u64.wrap (-(n : Int)) = -(n : Int) + 18446744073709551616 := by rw [IntKind.wrap_u64]; omega
        have e2 : IntKind.i64.wrap (-(n : Int) + 18446744073709551616) = -(n : Int) := by rw [IntKind.wrap_i64]; omega
        clear hr
        go_wp2_with fail
        go_ret2
        exact ⟨_, _, rfl, ⟨fun h => absurd HZ.out (by omega), fun h => absurd HZ.out (by omega), fun _ _ => (by omega)⟩, HX.out⟩
    · have HX := Lib.hid ((Ext.refl w).alloc (.cells #[Value.bool true, Value.slice A nl c] 48))
      clear hb
      go_wp2_with fail
      go_ret2
      exact ⟨_, _, rfl, ⟨fun h => absurd HZ.out (by omega), fun _ => rfl, fun _ h => (by cases h)⟩, HX.out⟩
  · have hzd : decide (z < 0) = false := decide_eq_false hz
    rw [hzd]
    obtain ⟨n, rfl⟩ := Int.eq_ofNat_of_zero_le (show 0 ≤ z by omega)
    rw [Int.natAbs_natCast] at HU
    clear HA hzd hz
    go_enter Tryz.func35, Tryz.ntmps35
    go_wp2_with fail
    refine (HU.out _ ((Ext.refl w).alloc _)).mono ?_
    rintro e w1 ⟨⟨hb, rfl⟩ | ⟨hb, rfl⟩, rfl⟩
    · have HX := Lib.hid ((Ext.refl w).alloc (.cells #[Value.bool false, Value.slice A nl c] 48))
      by_cases hr : 9223372036854775807 < n
      · have h1 : (9223372036854775807 : Int) < (n : Int) := by omega
        have HR := Lib.hid hr
        clear hr
        go_wp2_with fail
        go_ret2
        exact ⟨_, _, rfl, ⟨fun _ h => absurd HR.out (by omega), fun _ => rfl, fun h => by omega⟩, HX.out⟩
      · have h1 : ¬ (9223372036854775807 : Int) < (n : Int) := by omega
        have e2 : IntKind.i64.wrap (n : Int) = (n : Int) := IntWalk.i64_in _ (by omega)
        have HR := Lib.hid hr
        clear hr
        go_wp2_with fail
        go_ret2
        exact ⟨_, _, rfl, ⟨fun _ _ => ⟨rfl, rfl⟩, fun h => absurd HR.out (by omega), fun h => by omega⟩, HX.out⟩
    · have HX := Lib.hid ((Ext.refl w).alloc (.cells #[Value.bool false, Value.slice A nl c] 48))
      have HR := Lib.hid hb
      clear hb
      go_wp2_with fail
      go_ret2
      exact ⟨_, _, rfl, ⟨fun _ h => absurd HR.out (by omega), fun _ => rfl, fun h => by omega⟩, HX.out⟩
end Big
end Go.Proofs.YtoehdoghghpmjaaGreatDoor
/- The document's Parse of commands. -/
namespace Go.Proofs.YtoehdoghghpmjaaGreatDoor
namespace Big
open Go.RowKit
theorem natural_limb_len (s : List UInt8) : (limbs (natural s).1).length ≤ s.length := by
  unfold natural
  split
  · rw [limbs_zero]; simp
  · split
    · rw [limbs_zero]; simp
    · split
      · rw [limbs_zero]; simp
      · split
        · rename_i h
          exact limbs_len_pow (numOf_lt s h)
        · rw [limbs_zero]; simp
theorem parse_num (s : List UInt8) : (limbs (parseI s).1.natAbs).length ≤ s.length ∧ ((∃ z : Nat, parseI s = ((z : Int), 0) ∧ natural s = (z, 0)) ∨ (numW s = none ∧ ((parseI s).2 ≠ 0 ∨ (parseI s).1 < 0))) := by
  have hnone : (natural s).2 ≠ 0 → numW s = none := fun h => by unfold numW; rw [if_neg (fun h2 => h h2.1)]
  unfold parseI
  by_cases h1 : 20001 < s.length
  · rw [if_pos h1]
    refine ⟨by simp [limbs_zero], .inr ⟨hnone ?_, .inl (by simp)⟩⟩
    unfold natural; rw [if_pos h1]; simp
  · rw [if_neg h1]
    simp only
    cases s with
    | nil => exact ⟨by decide, .inr ⟨hnone (by decide), .inl (by decide)⟩⟩
    | cons c r =>
      by_cases hc : c = 45
      · subst hc
        have hn : (natural (45 :: r)).2 ≠ 0 := by
          unfold natural
          have ha : List.all ((45 : UInt8) :: r) isDig = false := by rw [List.all_cons]; rfl
          rw [ha]
          simp only [Bool.false_eq_true, if_false]
          (repeat' split) <;> simp
        have hh : ((List.head? ((45 : UInt8) :: r)) == some 45) = true := rfl
        rw [hh]
        simp only [if_true, List.tail_cons]
        have hl := natural_limb_len r
        split
        · exact ⟨by simp [limbs_zero], .inr ⟨hnone hn, .inl (by simp)⟩⟩
        · rename_i h2
          simp only [not_or, true_and] at h2
          refine ⟨?_, .inr ⟨hnone hn, .inr ?_⟩⟩
          · rw [natAbs_sgn, List.length_cons]; omega
          · have := h2.2
            unfold sgn
            simp only [if_true]
            omega
      · have hh : ((List.head? (c :: r)) == some 45) = false := by
          rw [beq_eq_false_iff_ne]
          intro h
          injection h with h
          exact hc h
        rw [hh]
        simp only [Bool.false_eq_true, if_false, false_and, or_false]
        have hl := natural_limb_len (c :: r)
        obtain ⟨n, e, hr⟩ : ∃ n e, natural (c :: r) = (n, e) := ⟨_, _, rfl⟩
        rw [hr] at hnone hl ⊢
        simp only at hnone hl ⊢
        split
        · rename_i h2
          exact ⟨by simp [limbs_zero], .inr ⟨hnone h2, .inl (by simp)⟩⟩
        · rename_i h2
          have h3 : e = 0 := by simpa using h2
          subst h3
          refine ⟨by rw [natAbs_sgn]; exact hl, .inl ⟨n, ?_, rfl⟩⟩
          unfold sgn
          simp
theorem lineR_none {s : List UInt8} (h : ¬ 500 < s.length) (h2 : opOf (fw (sp s)) = 0 ∨ readR (opOf (fw (sp s))) (rw_ (sp s)) = none) : lineR s = (none, 6) := by
  unfold lineR
  rw [if_neg h]
  by_cases h0 : opOf (fw (sp s)) = 0
  · rw [if_pos h0]
  · rw [if_neg h0, h2.resolve_left h0]
theorem lineR_some {s : List UInt8} {c : Cmd} (h : ¬ 500 < s.length) (h0 : opOf (fw (sp s)) ≠ 0) (h2 : readR (opOf (fw (sp s))) (rw_ (sp s)) = some c) : lineR s = (some c, 0) := by
  unfold lineR
  rw [if_neg h, if_neg h0, h2]
theorem shape_else (k : Nat) (hk : k < 22) (h3 : k ≠ 3) (h21 : k ≠ 21) (h6 : k ≠ 6) (h1 : k ≠ 1) : shapeC (k : Int) = if namedC (k : Int) then 1 else 0 := by
  have := (show ∀ k : Fin 22, k.val ≠ 3 → k.val ≠ 21 → k.val ≠ 6 → k.val ≠ 1 → shapeC ((k.val : Nat) : Int) = if namedC ((k.val : Nat) : Int) then 1 else 0 by decide +kernel) ⟨k, hk⟩
  exact this h3 h21 h6 h1
theorem readR_zero (r : List UInt8) : readR 0 r = none := by
  have h : ∀ a b c d, validC ⟨0, a, b, c, d⟩ = false := fun a b c d => by
    unfold validC
    simp only
    rw [show nameC 0 = [] from rfl]
    simp
  unfold readR
  simp only [show shapeC 0 = 0 from rfl, h]
  simp
theorem names_ne (k : Nat) (h1 : 1 ≤ k) (h2 : k < 22) : cmdNames.getD k [] ≠ [] :=
  (show ∀ k : Fin 22, 1 ≤ k.val → cmdNames.getD k.val [] ≠ [] by decide +kernel) ⟨k, h2⟩ h1
end Big
end Go.Proofs.YtoehdoghghpmjaaGreatDoor
/- The document's Parse of commands: a class of operations. -/
namespace Go.Proofs.YtoehdoghghpmjaaGreatDoor
namespace Big
open Go.RowKit
set_option maxHeartbeats 2000000 in
set_option maxRecDepth 100000 in
theorem rparse31_6 (w : World) (s : List UInt8) (hs : s.length ≤ 500) (k : Nat) (hko : opOf (fw (sp s)) = k) (hk : k = 6) :
    Calls Tryz.prog 13 #[str s] w fun e w' => e = .returned (.tuple #[cmdV (cmdOf (lineR s).1), .int .i64 ((lineR s).2 : Int)]) ∧ Ext w w' := by
  unfold cmdV
  have h5' : ¬ (500 : Int) < (s.length : Int) := by omega
  have HRN := Lib.hid (fun h => lineR_none (s := s) (by omega) h)
  have HRS0 := Lib.hid (fun c h0 h => lineR_some (s := s) (c := c) (by omega) h0 h)
  have hk22 : k < 22 := by
    by_cases h : opOf (fw (sp s)) = 0
    · omega
    · have := (opOf_spec h).1; omega
  have HAT : Hid (∀ i, 1 ≤ i → i < 22 → (cmdNames.getD i [] = fw (sp s) ↔ i = k)) := Lib.hid (fun i h1 h2 => ⟨fun h => by
      have := opOf_at h2 (names_ne i h1 h2)
      rw [h] at this
      omega, fun h => by
      have h3 : opOf (fw (sp s)) ≠ 0 := by omega
      have := (opOf_spec h3).2
      rw [hko, ← h] at this
      exact this⟩)
  have e0 := sp_le s
  have e1 := fw_le (sp s)
  have e2 := rw_le (sp s)
  have HN1 := Lib.hid (fun W => next31_any W s (by omega))
  rw [hko] at HRN HRS0
  obtain ⟨first, hfi⟩ : ∃ x, x = fw (sp s) := ⟨_, rfl⟩
  obtain ⟨r1, hr1⟩ : ∃ x, x = rw_ (sp s) := ⟨_, rfl⟩
  rw [← hfi, ← hr1] at HN1
  rw [← hfi] at HAT
  rw [← hr1] at HRN HRS0 e2
  clear hko hfi hr1 e1
  generalize lineR s = R at *
  have e3 := sp_le r1
  have e4 := fw_le (sp r1)
  have e5 := rw_le (sp r1)
  have e6 := sp_le (rw_ (sp r1))
  have e7 := fw_le (sp (rw_ (sp r1)))
  have e8 := rw_le (sp (rw_ (sp r1)))
  have e9 := bareT_le (rw_ (sp (rw_ (sp r1))))
  have HL : Hid (r1.length ≤ 500 ∧ (fw (sp r1)).length ≤ 500 ∧ (rw_ (sp r1)).length ≤ 500 ∧ (fw (sp (rw_ (sp r1)))).length ≤ 500 ∧ (rw_ (sp (rw_ (sp r1)))).length ≤ 500 ∧ (bareT (rw_ (sp (rw_ (sp r1))))).length ≤ 500) := Lib.hid (by omega)
  have HN2 := Lib.hid (fun W => next31_any W r1 (by omega))
  have HN3 := Lib.hid (fun W => next31_any W (rw_ (sp r1)) (by omega))
  have HNM := Lib.hid (fun W op => rname31_any W op)
  have HND := Lib.hid (fun W => rnamed_any W (k : Int))
  subst hk
  have HRS := Lib.hid (fun c h => HRS0.out c (by omega) h)
  rw [show namedC ((6 : Nat) : Int) = true from rfl] at HND
  have HRD : Hid (readR (((6 : Nat) : Int) : Int) r1 = if bareT (rw_ (sp (rw_ (sp r1)))) = [] ∧ validC ⟨6, fw (sp r1), fw (sp (rw_ (sp r1))), [], 0⟩ = true then some ⟨6, fw (sp r1), fw (sp (rw_ (sp r1))), [], 0⟩ else none) := Lib.hid (by show readR 6 r1 = _; unfold readR; simp [show shapeC 6 = 3 from rfl])
  clear hs e0 e2 e3 e4 e5 e6 e7 e8 e9
  go_enter Tryz.func13, Tryz.ntmps13
  go_wp2_with fail
  have ha := (Blk.new w 31 #[Value.int .i64 0, Value.string ⟨#[]⟩, Value.string ⟨#[]⟩, Value.string ⟨#[]⟩, Value.int .i64 0]).ext ((Ext.refl _).alloc (.cells #[Value.int .i64 0, Value.string ⟨#[]⟩, Value.string ⟨#[]⟩, Value.string ⟨#[]⟩, Value.int .i64 0] 31))
  have hc := Blk.new (w.alloc (.cells #[Value.int .i64 0, Value.string ⟨#[]⟩, Value.string ⟨#[]⟩, Value.string ⟨#[]⟩, Value.int .i64 0] 31)) 31 #[Value.int .i64 0, Value.string ⟨#[]⟩, Value.string ⟨#[]⟩, Value.string ⟨#[]⟩, Value.int .i64 0]
  have hgs : (w.alloc (.cells #[Value.int .i64 0, Value.string ⟨#[]⟩, Value.string ⟨#[]⟩, Value.string ⟨#[]⟩, Value.int .i64 0] 31)).heap.size = w.heap.size + 1 := by simp
  rw [hgs] at hc
  have HX0 : Hid (Ext w ((w.alloc (.cells #[Value.int .i64 0, Value.string ⟨#[]⟩, Value.string ⟨#[]⟩, Value.string ⟨#[]⟩, Value.int .i64 0] 31)).alloc (.cells #[Value.int .i64 0, Value.string ⟨#[]⟩, Value.string ⟨#[]⟩, Value.string ⟨#[]⟩, Value.int .i64 0] 31))) := Lib.hid (((Ext.refl w).alloc _).alloc _)
  obtain ⟨gc, hgc⟩ : ∃ gc, gc = w.heap.size + 1 := ⟨_, rfl⟩
  rw [← hgc] at hc ⊢
  obtain ⟨ga, hga⟩ : ∃ ga, ga = w.heap.size := ⟨_, rfl⟩
  have nac : ga ≠ gc := by omega
  have HGA : Hid (w.heap.size ≤ ga) := Lib.hid (by omega)
  have HGC : Hid (w.heap.size ≤ gc) := Lib.hid (by omega)
  rw [← hga] at ha ⊢
  have HA0 := Lib.hid ha
  have HC0 := Lib.hid hc
  clear ha hc hga hgc hgs
  generalize (w.alloc (.cells #[Value.int .i64 0, Value.string ⟨#[]⟩, Value.string ⟨#[]⟩, Value.string ⟨#[]⟩, Value.int .i64 0] 31)).alloc (.cells #[Value.int .i64 0, Value.string ⟨#[]⟩, Value.string ⟨#[]⟩, Value.string ⟨#[]⟩, Value.int .i64 0] 31) = w0 at *
  refine (HN1.out _).mono ?_
  rintro e w1 ⟨rfl, hx1⟩
  have HA1 := Lib.hid (HA0.out.ext hx1)
  have HC1 := Lib.hid (HC0.out.ext hx1)
  have HX1 := Lib.hid (HX0.out.trans hx1)
  clear hx1
  go_wp2_with fail
  go_loopw [7] (fun s7 wr => ∃ i : Nat, 1 ≤ i ∧ i ≤ 22 ∧ s7 = .int .i64 (i : Int) ∧ Ext w wr ∧ Blk wr ga 31 #[Value.int .i64 0, Value.string ⟨#[]⟩, Value.string ⟨#[]⟩, Value.string ⟨#[]⟩, Value.int .i64 0] ∧ ∃ v : Nat, Blk wr gc 31 #[Value.int .i64 (v : Int), Value.string ⟨#[]⟩, Value.string ⟨#[]⟩, Value.string ⟨#[]⟩, Value.int .i64 0] ∧ v = if 6 < i then 6 else 0) (fun s7 _ => 22 - (intOf s7).toNat)
  case atStart => exact ⟨1, by omega, by omega, rfl, HX1.out, HA1.out, 0, HC1.out, by split <;> omega⟩
  case round =>
    obtain ⟨i, hi1, hi2, rfl, hx, ha, v, hc, hv⟩ := hrel
    have HX2 := Lib.hid hx
    have HA2 := Lib.hid ha
    have HC2 := Lib.hid hc
    have HV := Lib.hid hv
    clear hx ha hc hv HX1 HA1 HC1 HX0 HA0 HC0
    by_cases hlt : i < 22
    · have hii : (i : Int) ≤ 21 := by omega
      have hat := HAT.out i hi1 hlt
      have hnm : nameC (i : Int) = cmdNames.getD i [] := by unfold nameC; rw [if_pos (by omega), Int.toNat_natCast]
      have HNI := Lib.hid (fun W => HNM.out W (i : Int))
      rw [hnm] at HNI
      generalize cmdNames.getD i [] = fn at *
      clear hnm
      go_wp2_with fail
      refine (HNI.out _).mono ?_
      rintro e w3 ⟨rfl, hx3⟩
      have HA3 := Lib.hid (HA2.out.ext hx3)
      have HC3 := Lib.hid (HC2.out.ext hx3)
      have HX3 := Lib.hid (HX2.out.trans hx3)
      clear hx3
      cases heq : fn == first
      · have hne : i ≠ 6 := fun h => by rw [hat.2 h] at heq; simp at heq
        have HV2 : Hid (v = if 6 < i + 1 then 6 else 0) := Lib.hid (by rw [HV.out]; (repeat' split) <;> omega)
        clear hat hne
        go_wp2_with fail
        go_roundw
        case rel => exact ⟨i + 1, by omega, by omega, by go_num, HX3.out, HA3.out, v, HC3.out, HV2.out⟩
        case measure => simp [intOf]; omega
      · have hik : i = 6 := hat.1 (by simpa using heq)
        have HV2 : Hid (i = if 6 < i + 1 then 6 else 0) := Lib.hid (by rw [if_pos (by omega)]; exact hik)
        clear hat hik
        have a0 := HA3.out.cell 0
        have e0 := HA3.out.frozen 0
        have p0 := HC3.out.cell 0
        have q0 := HC3.out.frozen 0
        have a1 := HA3.out.cell 1
        have e1 := HA3.out.frozen 1
        have p1 := HC3.out.cell 1
        have q1 := HC3.out.frozen 1
        have a2 := HA3.out.cell 2
        have e2 := HA3.out.frozen 2
        have p2 := HC3.out.cell 2
        have q2 := HC3.out.frozen 2
        have a3 := HA3.out.cell 3
        have e3 := HA3.out.frozen 3
        have p3 := HC3.out.cell 3
        have q3 := HC3.out.frozen 3
        have a4 := HA3.out.cell 4
        have e4 := HA3.out.frozen 4
        have p4 := HC3.out.cell 4
        have q4 := HC3.out.frozen 4
        have az := HA3.out.lt
        have pz := HC3.out.lt
        go_wp2_with fail
        go_roundw
        case rel => exact ⟨i + 1, by omega, by omega, by go_num, HX3.out.setCell (p := ⟨gc, 0, none⟩) HGC.out _, HA3.out.far nac _, i, (by have := HC3.out.set_ 0 (Value.int .i64 (i : Int)); simpa using this), HV2.out⟩
        case measure => simp [intOf]; omega
    · obtain rfl : i = 22 := by omega
      have hvk : v = 6 := by have := HV.out; rw [if_pos hk22] at this; exact this
      subst hvk
      clear HV hlt hi1 hi2 HAT
      have a0 := HA2.out.cell 0
      have e0 := HA2.out.frozen 0
      have p0 := HC2.out.cell 0
      have q0 := HC2.out.frozen 0
      have a1 := HA2.out.cell 1
      have e1 := HA2.out.frozen 1
      have p1 := HC2.out.cell 1
      have q1 := HC2.out.frozen 1
      have a2 := HA2.out.cell 2
      have e2 := HA2.out.frozen 2
      have p2 := HC2.out.cell 2
      have q2 := HC2.out.frozen 2
      have a3 := HA2.out.cell 3
      have e3 := HA2.out.frozen 3
      have p3 := HC2.out.cell 3
      have q3 := HC2.out.frozen 3
      have a4 := HA2.out.cell 4
      have e4 := HA2.out.frozen 4
      have p4 := HC2.out.cell 4
      have q4 := HC2.out.frozen 4
      have az := HA2.out.lt
      have pz := HC2.out.lt
      go_wp2_with fail
      refine (HND.out _).mono ?_
      rintro e w4 ⟨rfl, rfl⟩
      go_wp2_with fail
      refine (HN2.out _).mono ?_
      rintro e w4 ⟨rfl, hx4⟩
      clear a0 a1 a2 a3 a4 e0 e1 e2 e3 e4 p0 p1 p2 p3 p4 q0 q1 q2 q3 q4 az pz
      have HAd := Lib.hid (HA2.out.ext hx4)
      have HCd := Lib.hid (HC2.out.ext hx4)
      have HXd := Lib.hid (HX2.out.trans hx4)
      clear hx4
      have HAe : Hid (Blk (w4.setCell ⟨gc, 1, none⟩ (str (fw (sp r1)))) ga 31 #[Value.int .i64 0, Value.string ⟨#[]⟩, Value.string ⟨#[]⟩, Value.string ⟨#[]⟩, Value.int .i64 0]) := Lib.hid (HAd.out.far nac _)
      have HCe : Hid (Blk (w4.setCell ⟨gc, 1, none⟩ (str (fw (sp r1)))) gc 31 #[Value.int .i64 (6 : Int), str (fw (sp r1)), Value.string ⟨#[]⟩, Value.string ⟨#[]⟩, Value.int .i64 0]) := Lib.hid (by have := HCd.out.set_ 1 (str (fw (sp r1))); simpa using this)
      have HXe : Hid (Ext w (w4.setCell ⟨gc, 1, none⟩ (str (fw (sp r1))))) := Lib.hid (HXd.out.setCell (p := ⟨gc, 1, none⟩) HGC.out (str (fw (sp r1))))
      have a0 := HAd.out.cell 0
      have e0 := HAd.out.frozen 0
      have p0 := HCd.out.cell 0
      have q0 := HCd.out.frozen 0
      have a1 := HAd.out.cell 1
      have e1 := HAd.out.frozen 1
      have p1 := HCd.out.cell 1
      have q1 := HCd.out.frozen 1
      have a2 := HAd.out.cell 2
      have e2 := HAd.out.frozen 2
      have p2 := HCd.out.cell 2
      have q2 := HCd.out.frozen 2
      have a3 := HAd.out.cell 3
      have e3 := HAd.out.frozen 3
      have p3 := HCd.out.cell 3
      have q3 := HCd.out.frozen 3
      have a4 := HAd.out.cell 4
      have e4 := HAd.out.frozen 4
      have p4 := HCd.out.cell 4
      have q4 := HCd.out.frozen 4
      have az := HAd.out.lt
      have pz := HCd.out.lt
      go_wp2_with fail
      refine (HN3.out _).mono ?_
      rintro e w5 ⟨rfl, hx5⟩
      clear a0 a1 a2 a3 a4 e0 e1 e2 e3 e4 p0 p1 p2 p3 p4 q0 q1 q2 q3 q4 az pz
      generalize hgw : w4.setCell ⟨gc, 1, none⟩ (str (fw (sp r1))) = w4' at *
      clear hgw
      have HAf := Lib.hid (HAe.out.ext hx5)
      have HCf := Lib.hid (HCe.out.ext hx5)
      have HXf := Lib.hid (HXe.out.trans hx5)
      clear hx5
      have HAg : Hid (Blk (w5.setCell ⟨gc, 2, none⟩ (str (fw (sp (rw_ (sp r1)))))) ga 31 #[Value.int .i64 0, Value.string ⟨#[]⟩, Value.string ⟨#[]⟩, Value.string ⟨#[]⟩, Value.int .i64 0]) := Lib.hid (HAf.out.far nac _)
      have HCg : Hid (Blk (w5.setCell ⟨gc, 2, none⟩ (str (fw (sp (rw_ (sp r1)))))) gc 31 #[Value.int .i64 (6 : Int), str (fw (sp r1)), str (fw (sp (rw_ (sp r1)))), Value.string ⟨#[]⟩, Value.int .i64 0]) := Lib.hid (by have := HCf.out.set_ 2 (str (fw (sp (rw_ (sp r1))))); simpa using this)
      have HXg : Hid (Ext w (w5.setCell ⟨gc, 2, none⟩ (str (fw (sp (rw_ (sp r1))))))) := Lib.hid (HXf.out.setCell (p := ⟨gc, 2, none⟩) HGC.out (str (fw (sp (rw_ (sp r1))))))
      have a0 := HAf.out.cell 0
      have e0 := HAf.out.frozen 0
      have p0 := HCf.out.cell 0
      have q0 := HCf.out.frozen 0
      have a1 := HAf.out.cell 1
      have e1 := HAf.out.frozen 1
      have p1 := HCf.out.cell 1
      have q1 := HCf.out.frozen 1
      have a2 := HAf.out.cell 2
      have e2 := HAf.out.frozen 2
      have p2 := HCf.out.cell 2
      have q2 := HCf.out.frozen 2
      have a3 := HAf.out.cell 3
      have e3 := HAf.out.frozen 3
      have p3 := HCf.out.cell 3
      have q3 := HCf.out.frozen 3
      have a4 := HAf.out.cell 4
      have e4 := HAf.out.frozen 4
      have p4 := HCf.out.cell 4
      have q4 := HCf.out.frozen 4
      have az := HAf.out.lt
      have pz := HCf.out.lt
      go_upto_region 30 with fail
      clear a0 a1 a2 a3 a4 e0 e1 e2 e3 e4 p0 p1 p2 p3 p4 q0 q1 q2 q3 q4 az pz
      generalize hgw : w5.setCell ⟨gc, 2, none⟩ (str (fw (sp (rw_ (sp r1))))) = w6 at *
      clear hgw
      have HBR := Lib.hid (fun W => bare31_any W (rw_ (sp (rw_ (sp r1)))) (by have := HL.out; (try simp only [List.length_nil]); omega))
      have HVK : Hid (∀ W : World, Calls Tryz.prog 16 #[.agg #[Value.int .i64 (6 : Int), str (fw (sp r1)), str (fw (sp (rw_ (sp r1)))), Value.string ⟨#[]⟩, Value.int .i64 0]] W fun e w' => e = .returned (.bool (validC ⟨6, fw (sp r1), fw (sp (rw_ (sp r1))), [], 0⟩)) ∧ Ext W w') := Lib.hid (fun W => rvalid31_any W ⟨6, fw (sp r1), fw (sp (rw_ (sp r1))), [], 0⟩ (by have := HL.out; (try simp only [List.length_nil]); omega) (by have := HL.out; (try simp only [List.length_nil]); omega) (by have := HL.out; (try simp only [List.length_nil]); omega))
      obtain ⟨vb, hvb⟩ : ∃ vb, vb = validC ⟨6, fw (sp r1), fw (sp (rw_ (sp r1))), [], 0⟩ := ⟨_, rfl⟩
      have HVB := Lib.hid hvb
      rw [← hvb] at HVK HRD
      clear hvb
      obtain ⟨bt, hbt⟩ : ∃ bt, bt = bareT (rw_ (sp (rw_ (sp r1)))) := ⟨_, rfl⟩
      rw [← hbt] at HBR HRD
      clear hbt
      have a0 := HAg.out.cell 0
      have e0 := HAg.out.frozen 0
      have p0 := HCg.out.cell 0
      have q0 := HCg.out.frozen 0
      have a1 := HAg.out.cell 1
      have e1 := HAg.out.frozen 1
      have p1 := HCg.out.cell 1
      have q1 := HCg.out.frozen 1
      have a2 := HAg.out.cell 2
      have e2 := HAg.out.frozen 2
      have p2 := HCg.out.cell 2
      have q2 := HCg.out.frozen 2
      have a3 := HAg.out.cell 3
      have e3 := HAg.out.frozen 3
      have p3 := HCg.out.cell 3
      have q3 := HCg.out.frozen 3
      have a4 := HAg.out.cell 4
      have e4 := HAg.out.frozen 4
      have p4 := HCg.out.cell 4
      have q4 := HCg.out.frozen 4
      have az := HAg.out.lt
      have pz := HCg.out.lt
      go_wp2_with fail
      refine (HBR.out _).mono ?_
      rintro e w8 ⟨rfl, rfl⟩
      cases hbe : bt == []
      · have HN6 : Hid (R = (none, 6)) := Lib.hid (HRN.out (.inr (by rw [HRD.out, if_neg (fun h => by rw [h.1] at hbe; simp at hbe)])))
        go_wp2_with fail
        obtain ⟨y0, y1, y2, y3, y4⟩ := five_set HAg.out (Value.int .i64 0) (Value.string ⟨#[]⟩) (Value.string ⟨#[]⟩) (Value.string ⟨#[]⟩) (Value.int .i64 0)
        refine bodyPost_ret (v := .tuple #[.agg #[Value.int .i64 0, Value.string ⟨#[]⟩, Value.string ⟨#[]⟩, Value.string ⟨#[]⟩, Value.int .i64 0], .int .i64 6]) (by simp [results, Tryz.results13, go_sem, y0, y1, y2, y3, y4]) rfl ?_
        rw [HN6.out]
        exact ⟨rfl, (((((HXg.out.setCell (p := ⟨ga, 0, none⟩) HGA.out _).setCell (p := ⟨ga, 1, none⟩) HGA.out _).setCell (p := ⟨ga, 2, none⟩) HGA.out _).setCell (p := ⟨ga, 3, none⟩) HGA.out _).setCell (p := ⟨ga, 4, none⟩) HGA.out _)⟩
      have HBE : Hid (bt = []) := Lib.hid (by simpa using hbe)
      go_wp2_with fail
      refine (HVK.out _).mono ?_
      rintro e w9 ⟨rfl, hx9⟩
      clear a0 a1 a2 a3 a4 e0 e1 e2 e3 e4 p0 p1 p2 p3 p4 q0 q1 q2 q3 q4 az pz
      have HAz := Lib.hid (HAg.out.ext hx9)
      have HCz := Lib.hid (HCg.out.ext hx9)
      have HXz := Lib.hid (HXg.out.trans hx9)
      clear hx9
      have a0 := HAz.out.cell 0
      have e0 := HAz.out.frozen 0
      have p0 := HCz.out.cell 0
      have q0 := HCz.out.frozen 0
      have a1 := HAz.out.cell 1
      have e1 := HAz.out.frozen 1
      have p1 := HCz.out.cell 1
      have q1 := HCz.out.frozen 1
      have a2 := HAz.out.cell 2
      have e2 := HAz.out.frozen 2
      have p2 := HCz.out.cell 2
      have q2 := HCz.out.frozen 2
      have a3 := HAz.out.cell 3
      have e3 := HAz.out.frozen 3
      have p3 := HCz.out.cell 3
      have q3 := HCz.out.frozen 3
      have a4 := HAz.out.cell 4
      have e4 := HAz.out.frozen 4
      have p4 := HCz.out.cell 4
      have q4 := HCz.out.frozen 4
      have az := HAz.out.lt
      have pz := HCz.out.lt
      cases vb
      · have HN6 : Hid (R = (none, 6)) := Lib.hid (HRN.out (.inr (HRD.out.trans (by simp))))
        go_wp2_with fail
        obtain ⟨y0, y1, y2, y3, y4⟩ := five_set HAz.out (Value.int .i64 0) (Value.string ⟨#[]⟩) (Value.string ⟨#[]⟩) (Value.string ⟨#[]⟩) (Value.int .i64 0)
        refine bodyPost_ret (v := .tuple #[.agg #[Value.int .i64 0, Value.string ⟨#[]⟩, Value.string ⟨#[]⟩, Value.string ⟨#[]⟩, Value.int .i64 0], .int .i64 6]) (by simp [results, Tryz.results13, go_sem, y0, y1, y2, y3, y4]) rfl ?_
        rw [HN6.out]
        exact ⟨rfl, (((((HXz.out.setCell (p := ⟨ga, 0, none⟩) HGA.out _).setCell (p := ⟨ga, 1, none⟩) HGA.out _).setCell (p := ⟨ga, 2, none⟩) HGA.out _).setCell (p := ⟨ga, 3, none⟩) HGA.out _).setCell (p := ⟨ga, 4, none⟩) HGA.out _)⟩
      · have HN6 : Hid (R = (some ⟨6, fw (sp r1), fw (sp (rw_ (sp r1))), [], 0⟩, 0)) := Lib.hid (HRS.out _ (HRD.out.trans (by simp [HBE.out])))
        go_wp2_with fail
        obtain ⟨y0, y1, y2, y3, y4⟩ := five_set HAz.out (Value.int .i64 (6 : Int)) (str (fw (sp r1))) (str (fw (sp (rw_ (sp r1))))) (Value.string ⟨#[]⟩) (Value.int .i64 0)
        refine bodyPost_ret (v := .tuple #[.agg #[Value.int .i64 (6 : Int), str (fw (sp r1)), str (fw (sp (rw_ (sp r1)))), Value.string ⟨#[]⟩, Value.int .i64 0], .int .i64 0]) (by simp [results, Tryz.results13, go_sem, y0, y1, y2, y3, y4]) rfl ?_
        rw [HN6.out]
        exact ⟨rfl, (((((HXz.out.setCell (p := ⟨ga, 0, none⟩) HGA.out _).setCell (p := ⟨ga, 1, none⟩) HGA.out _).setCell (p := ⟨ga, 2, none⟩) HGA.out _).setCell (p := ⟨ga, 3, none⟩) HGA.out _).setCell (p := ⟨ga, 4, none⟩) HGA.out _)⟩
end Big
end Go.Proofs.YtoehdoghghpmjaaGreatDoor
