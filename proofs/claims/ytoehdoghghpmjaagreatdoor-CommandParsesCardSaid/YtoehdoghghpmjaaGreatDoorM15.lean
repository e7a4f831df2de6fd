import Derived.Test.YtoehdoghghpmjaaGreatDoorM10
import Derived.Test.YtoehdoghghpmjaaGreatDoorM14
import Derived.Test.YtoehdoghghpmjaaGreatDoorM4
import Derived.Lib.LaidTab
import Derived.Lib.ItoaMem
import Derived.Test.YtoehdoghghpmjaaGreatDoorM5
/- command: the table of forms, the first word of a line, names. -/
namespace Go.Proofs.YtoehdoghghpmjaaGreatDoor
namespace Big
open Go.RowKit
theorem cutS_any (w : World) (l : List UInt8) (hl : l.length ≤ 1073741824) (hm : MaxV w) :
    Calls Tryz.prog 48 #[str l, .string ⟨#[32]⟩] w fun e w' => (∃ b, e = .returned (.tuple #[str (fw l), str ((rw_ l).drop 1), .bool b])) ∧ Ext w w' := by
  obtain ⟨m, hm⟩ := hm
  have h := Any.strings_Cut { Tryz.laysM145 with } ⟨l.toArray⟩ ⟨#[32]⟩ m w (by rw [size_str]; omega) hm
  obtain ⟨b, e⟩ := cut_sp l
  have e1 : Lib.cut (⟨l.toArray⟩ : ByteArray).data.toList (⟨#[32]⟩ : ByteArray).data.toList = (fw l, (rw_ l).drop 1, b) := e
  rw [e1] at h
  refine h.mono ?_
  rintro e w' ⟨rfl, n, rfl⟩
  exact ⟨⟨b, rfl⟩, (Ext.refl w).drewN n⟩
theorem trimL_any (w : World) (l : List UInt8) :
    Calls Tryz.prog 49 #[str l, .string ⟨#[32]⟩] w fun e w' => e = .returned (str (sp l)) ∧ w = w' := by
  refine (Tryz.strings_TrimLeft_one ⟨l.toArray⟩ 32 (by decide) w).mono ?_
  rintro e w' ⟨rfl, rfl⟩
  exact ⟨rfl, rfl⟩
theorem trimS_any (w : World) (l : List UInt8) (hl : l.length ≤ 1073741824) :
    Calls Tryz.prog 28 #[str l, .string ⟨#[32]⟩] w fun e w' => e = .returned (str (bareT l)) ∧ Ext w w' := by
  refine (Tryz.strings_Trim_one ⟨l.toArray⟩ 32 (by decide) w (by rw [size_str]; omega)).mono ?_
  rintro e w' ⟨rfl, hw⟩
  have e1 : Lib.trimB (⟨l.toArray⟩ : ByteArray).data.toList 32 = bareT l := trimB_sp l
  rw [e1]
  refine ⟨rfl, ?_⟩
  rcases hw with rfl | rfl
  · exact Ext.refl _
  · exact (Ext.refl _).drew
theorem cword_any (w : World) (l : List UInt8) (hl : l.length ≤ 1073741824) (hm : MaxV w) :
    Calls Tryz.prog 27 #[str l] w fun e w' => e = .returned (.tuple #[str (fw l), str (sp (rw_ l))]) ∧ Ext w w' := by
  have H1 := Lib.hid (cutS_any w l hl hm)
  have H2 := Lib.hid (fun W => trimL_any W ((rw_ l).drop 1))
  rw [sp_drop] at H2
  generalize (rw_ l).drop 1 = r at *
  generalize sp (rw_ l) = q at *
  generalize fw l = f at *
  clear hl hm
  go_enter Tryz.func27, Tryz.ntmps27
  go_wp2_with fail
  refine H1.out.mono ?_
  rintro e w1 ⟨⟨b, rfl⟩, hx1⟩
  have HX1 := Lib.hid hx1
  clear hx1
  go_wp2_with fail
  refine (H2.out _).mono ?_
  rintro e w2 ⟨rfl, rfl⟩
  go_wp2_with fail
  go_ret2
  exact ⟨rfl, HX1.out⟩
/-- The table of the forms lies in a block. -/
def FormsAt (w : World) (g : Nat) : Prop := g < w.heap.size ∧ ∀ k, k < 22 → w.cell? ⟨g, k * 3, none⟩ = some (str (cmdNames.getD k [])) ∧ w.cell? ⟨g, k * 3 + 1, none⟩ = some (.int .i64 (cmdShapes.getD k 0 : Int)) ∧ w.cell? ⟨g, k * 3 + 2, none⟩ = some (.bool (cmdWrites.getD k false))
theorem FormsAt.ext {w w' : World} {g : Nat} (h : FormsAt w g) (hx : Ext w w') : FormsAt w' g :=
  ⟨Nat.lt_of_lt_of_le h.1 hx.size, fun k hk => ⟨(hx.cell h.1).trans (h.2 k hk).1, (hx.cell h.1).trans (h.2 k hk).2.1, (hx.cell h.1).trans (h.2 k hk).2.2⟩⟩
set_option maxHeartbeats 2000000 in
set_option maxRecDepth 100000 in
theorem forms_any (w : World) : Calls Tryz.prog 29 #[] w fun e w' => ∃ g, e = .returned (.slice (some ⟨g, 0, none⟩) 22 22) ∧ FormsAt w' g ∧ Ext w w' ∧ w.heap.size ≤ g := by
  go_enter Tryz.func29, Tryz.ntmps29
  go_wp2_with fail
  go_ret
  refine ⟨_, rfl, ⟨by simp, fun k hk => ?_⟩, (Ext.refl w).alloc _, Nat.le_refl _⟩
  have hk2 : k = 0 ∨ k = 1 ∨ k = 2 ∨ k = 3 ∨ k = 4 ∨ k = 5 ∨ k = 6 ∨ k = 7 ∨ k = 8 ∨ k = 9 ∨ k = 10 ∨ k = 11 ∨ k = 12 ∨ k = 13 ∨ k = 14 ∨ k = 15 ∨ k = 16 ∨ k = 17 ∨ k = 18 ∨ k = 19 ∨ k = 20 ∨ k = 21 := by omega
  refine ⟨((Blk.new w _ _).cell _).trans ?_, ((Blk.new w _ _).cell _).trans ?_, ((Blk.new w _ _).cell _).trans ?_⟩ <;> rcases hk2 with rfl | rfl | rfl | rfl | rfl | rfl | rfl | rfl | rfl | rfl | rfl | rfl | rfl | rfl | rfl | rfl | rfl | rfl | rfl | rfl | rfl | rfl <;> rfl
/-- The form of an operation. -/
def formV (op : Int) : Value := .agg #[str (nameC op), .int .i64 (shapeC op : Int), .bool (writesC op)]
set_option maxRecDepth 100000 in
theorem of_any (w : World) (op : Int) : Calls Tryz.prog 36 #[.int .i64 op] w fun e w' => e = .returned (formV op) ∧ Ext w w' := by
  unfold formV
  by_cases hop : 0 ≤ op ∧ op < 22
  · have e1 : nameC op = cmdNames.getD op.toNat [] := by unfold nameC; rw [if_pos hop]
    have e2 : shapeC op = cmdShapes.getD op.toNat 0 := by unfold shapeC; rw [if_pos hop]
    have e3 : writesC op = cmdWrites.getD op.toNat false := by unfold writesC; rw [if_pos hop]
    rw [e1, e2, e3]
    obtain ⟨k, rfl⟩ := Int.eq_ofNat_of_zero_le hop.1
    have hk : k < 22 := by omega
    rw [Int.toNat_natCast]
    obtain ⟨nm, hnm⟩ : ∃ x, cmdNames.getD k [] = x := ⟨_, rfl⟩
    obtain ⟨sh, hsh⟩ : ∃ x, cmdShapes.getD k 0 = x := ⟨_, rfl⟩
    obtain ⟨wr, hwr⟩ : ∃ x, cmdWrites.getD k false = x := ⟨_, rfl⟩
    have HNM := Lib.hid hnm
    have HSH := Lib.hid hsh
    have HWR := Lib.hid hwr
    rw [hnm, hsh, hwr]
    have h1 : ¬ ((k : Int) < 0) := by omega
    have h2 : ¬ ((22 : Int) ≤ (k : Int)) := by omega
    have h3 : (k : Int) < 22 := by omega
    clear e1 e2 e3 hop hnm hsh hwr
    go_enter Tryz.func36, Tryz.ntmps36
    go_wp2_with fail
    refine (forms_any _).mono ?_
    rintro e w1 ⟨g, rfl, hf, hx, hg⟩
    have hbk := (Blk.new w 61 #[Value.string ⟨#[]⟩, Value.int .i64 0, Value.bool false]).ext hx
    obtain ⟨k0, k1, k2⟩ := hf.2 k hk
    have hc0 := hbk.cell 0
    have hc1 := hbk.cell 1
    have hc2 := hbk.cell 2
    have hf0 := hbk.frozen 0
    have hf1 := hbk.frozen 1
    have hf2 := hbk.frozen 2
    have HX := Lib.hid (((Ext.refl w).alloc (.cells #[Value.string ⟨#[]⟩, Value.int .i64 0, Value.bool false] 61)).trans hx)
    have HB := Lib.hid hbk
    rw [HNM.out] at k0
    rw [HSH.out] at k1
    rw [HWR.out] at k2
    have hz2 := hbk.lt
    clear hf hx hbk hg
    go_wp2_with fail
    obtain ⟨hr0, hr1, hr2⟩ := three_set HB.out (str nm) (.int .i64 (sh : Int)) (.bool wr)
    refine bodyPost_ret (v := .agg #[str nm, .int .i64 (sh : Int), .bool wr]) (by simp [results, Tryz.results36, go_sem, hr0, hr1, hr2]) rfl ?_
    exact ⟨rfl, ((HX.out.setCell (Nat.le_refl _) _).setCell (Nat.le_refl _) _).setCell (Nat.le_refl _) _⟩
  · have e1 : nameC op = [] := by unfold nameC; rw [if_neg hop]
    have e2 : shapeC op = 0 := by unfold shapeC; rw [if_neg hop]
    have e3 : writesC op = false := by unfold writesC; rw [if_neg hop]
    rw [e1, e2, e3]
    have h1 : decide (op < 0) = true ∨ (decide (op < 0) = false ∧ (22 : Int) ≤ op) := by
      by_cases h : op < 0
      · exact .inl (decide_eq_true h)
      · exact .inr ⟨decide_eq_false h, by omega⟩
    clear e1 e2 e3 hop
    rcases h1 with h1 | ⟨h1, h2⟩
    · have h1' : op < 0 := of_decide_eq_true h1
      clear h1
      go_enter Tryz.func36, Tryz.ntmps36
      go_wp2_with fail
      refine (forms_any _).mono ?_
      rintro e w1 ⟨g, rfl, hf, hx, hg⟩
      have hbk := (Blk.new w 61 #[Value.string ⟨#[]⟩, Value.int .i64 0, Value.bool false]).ext hx
      have hc0 := hbk.cell 0
      have hc1 := hbk.cell 1
      have hc2 := hbk.cell 2
      have hf0 := hbk.frozen 0
      have hf1 := hbk.frozen 1
      have hf2 := hbk.frozen 2
      have HX := Lib.hid (((Ext.refl w).alloc (.cells #[Value.string ⟨#[]⟩, Value.int .i64 0, Value.bool false] 61)).trans hx)
      have HB := Lib.hid hbk
      have hz2 := hbk.lt
      clear hf hx hbk hg
      go_wp2_with fail
      obtain ⟨hr0, hr1, hr2⟩ := three_set HB.out (.string ⟨#[]⟩) (.int .i64 0) (.bool false)
      refine bodyPost_ret (v := .agg #[.string ⟨#[]⟩, .int .i64 0, .bool false]) (by simp [results, Tryz.results36, go_sem, hr0, hr1, hr2]) rfl ?_
      exact ⟨rfl, ((HX.out.setCell (Nat.le_refl _) _).setCell (Nat.le_refl _) _).setCell (Nat.le_refl _) _⟩
    · have h1' : ¬ op < 0 := of_decide_eq_false h1
      clear h1
      go_enter Tryz.func36, Tryz.ntmps36
      go_wp2_with fail
      refine (forms_any _).mono ?_
      rintro e w1 ⟨g, rfl, hf, hx, hg⟩
      have hbk := (Blk.new w 61 #[Value.string ⟨#[]⟩, Value.int .i64 0, Value.bool false]).ext hx
      have hc0 := hbk.cell 0
      have hc1 := hbk.cell 1
      have hc2 := hbk.cell 2
      have hf0 := hbk.frozen 0
      have hf1 := hbk.frozen 1
      have hf2 := hbk.frozen 2
      have HX := Lib.hid (((Ext.refl w).alloc (.cells #[Value.string ⟨#[]⟩, Value.int .i64 0, Value.bool false] 61)).trans hx)
      have HB := Lib.hid hbk
      have hz2 := hbk.lt
      clear hf hx hbk hg
      go_wp2_with fail
      obtain ⟨hr0, hr1, hr2⟩ := three_set HB.out (.string ⟨#[]⟩) (.int .i64 0) (.bool false)
      refine bodyPost_ret (v := .agg #[.string ⟨#[]⟩, .int .i64 0, .bool false]) (by simp [results, Tryz.results36, go_sem, hr0, hr1, hr2]) rfl ?_
      exact ⟨rfl, ((HX.out.setCell (Nat.le_refl _) _).setCell (Nat.le_refl _) _).setCell (Nat.le_refl _) _⟩
theorem form_0 (nm : List UInt8) (sh : Int) (wr : Bool) (W : World) : (Instr.field 61 (.agg #[str nm, .int .i64 sh, .bool wr]) 0).run Tryz.prog W = .ok (str nm) W := by kernel_rfl
theorem form_1 (nm : List UInt8) (sh : Int) (wr : Bool) (W : World) : (Instr.field 61 (.agg #[str nm, .int .i64 sh, .bool wr]) 1).run Tryz.prog W = .ok (.int .i64 sh) W := by kernel_rfl
theorem form_2 (nm : List UInt8) (sh : Int) (wr : Bool) (W : World) : (Instr.field 61 (.agg #[str nm, .int .i64 sh, .bool wr]) 2).run Tryz.prog W = .ok (.bool wr) W := by kernel_rfl
end Big
end Go.Proofs.YtoehdoghghpmjaaGreatDoor
/- The library's variables that Atoi and Itoa read. -/
namespace Go.Proofs.YtoehdoghghpmjaaGreatDoor
namespace Big
open Go.RowKit
def ErrC (w : World) (g : Nat) : Prop := ∃ ev, w.cell? ⟨g, 0, none⟩ = some ev ∧ (ev = .nilIface ∨ ∃ te pe, ev = .iface te pe)
theorem ErrC.ext {w w' : World} {g : Nat} (h : ErrC w g) (hx : Ext w w') : ErrC w' g := by
  obtain ⟨ev, h1, h2⟩ := h
  exact ⟨ev, (hx.cell (World.block_lt_of_cell? w _ h1)).trans h1, h2⟩
def Pow10 (w : World) : Prop := Lib.TabIs Tryz.prog w "internal/strconv.uint64pow10" .u64 Lib.pow10Tab
theorem Pow10.ext {w w' : World} (h : Pow10 w) (hx : Ext w w') : Pow10 w' := by
  unfold Pow10 Lib.TabIs World.var? at h ⊢
  cases hg : Tryz.prog.globalNamed "internal/strconv.uint64pow10" with
  | none => rw [hg] at h; cases h
  | some g =>
    rw [hg] at h
    simp only [Option.bind_some] at h ⊢
    cases hh : w.heap[g]? with
    | none => rw [hh] at h; cases h
    | some b =>
      have hlt : g < w.heap.size := (Array.getElem?_eq_some_iff.1 hh).1
      have h2 : w'.heap[g]? = w.heap[g]? := Below.block hx g hlt
      rw [h2]
      exact h
/-- What the command's walks need of the library's variables. -/
structure CmdEnv (w : World) : Prop where
  syn : ErrC w 4
  ran : ErrC w 5
  tab : Pow10 w
theorem CmdEnv.ext {w w' : World} (h : CmdEnv w) (hx : Ext w w') : CmdEnv w' := ⟨h.syn.ext hx, h.ran.ext hx, h.tab.ext hx⟩
end Big
end Go.Proofs.YtoehdoghghpmjaaGreatDoor
/- command: the texts of let, numbers. -/
namespace Go.Proofs.YtoehdoghghpmjaaGreatDoor
namespace Big
open Go.RowKit
def printN (n : Nat) : Bool := decide (32 ≤ n) && decide (n ≤ 126)
theorem textB_eq {l : List UInt8} (hne : l ≠ []) (hl : l.length ≤ 400) : textB l = (bareT l == l && l.all (fun c => printN c.toNat)) := by
  have he : (l == []) = false := by cases l <;> simp_all
  have hb : (bareT l == l) = (!(l.head? == some 32) && !(l.getLast? == some 32)) := by
    rw [Bool.eq_iff_iff]
    simp only [beq_iff_eq, Bool.and_eq_true, Bool.not_eq_true', beq_eq_false_iff_ne]
    exact bareT_iff hne
  rw [hb]
  unfold textB printN
  rw [he, decide_eq_true hl]
  simp only [Bool.not_false, Bool.true_and, Bool.and_true, Bool.and_assoc]
theorem all_print_false {l : List UInt8} {i : Nat} (h : i < l.length) (hf : printN (byteAt l i) = false) : l.all (fun c => printN c.toNat) = false := by
  rw [List.all_eq_false]
  exact ⟨l[i], List.getElem_mem h, by rw [← byteAt_eq l i h, hf]; simp⟩
theorem all_print_true {l : List UInt8} (h : ∀ i, i < l.length → printN (byteAt l i) = true) : l.all (fun c => printN c.toNat) = true := by
  rw [List.all_eq_true]
  intro c hc
  obtain ⟨i, hi, rfl⟩ := List.getElem_of_mem hc
  rw [← byteAt_eq l i hi]
  exact h i hi
theorem printN_cases (b : Nat) : (printN b = false ∧ b < 32) ∨ (printN b = false ∧ ¬ b < 32 ∧ 126 < b) ∨ (printN b = true ∧ ¬ b < 32 ∧ ¬ 126 < b) := by
  unfold printN
  rcases Nat.lt_or_ge b 32 with h | h
  · left; exact ⟨by rw [decide_eq_false (by omega)]; rfl, h⟩
  · right
    rcases Nat.lt_or_ge 126 b with h2 | h2
    · left; exact ⟨by rw [decide_eq_true h, decide_eq_false (by omega)]; rfl, by omega, h2⟩
    · right; exact ⟨by rw [decide_eq_true h, decide_eq_true h2]; rfl, by omega, by omega⟩
set_option maxRecDepth 100000 in
theorem istext_any (w : World) (l : List UInt8) (hl : l.length ≤ 1073741824) : Calls Tryz.prog 38 #[str l] w fun e w' => e = .returned (.bool (textB l)) ∧ Ext w w' := by
  by_cases h0 : l = []
  · subst h0
    have HR : Hid (textB [] = false) := Lib.hid rfl
    have he : (([] : List UInt8) == []) = true := rfl
    go_enter Tryz.func38, Tryz.ntmps38
    go_wp2_with fail
    go_ret
    rw [HR.out]
    exact ⟨rfl, Ext.refl _⟩
  have he : (l == []) = false := by cases l <;> simp_all
  rcases Nat.lt_or_ge 400 l.length with h4 | h4
  · have HR : Hid (textB l = false) := Lib.hid (by unfold textB; rw [decide_eq_false (show ¬ l.length ≤ 400 by omega)]; simp)
    have hd : (400 : Int) < (l.length : Int) := by omega
    clear h0 h4
    go_enter Tryz.func38, Tryz.ntmps38
    go_wp2_with fail
    go_ret
    rw [HR.out]
    exact ⟨rfl, Ext.refl _⟩
  have HE := Lib.hid (textB_eq h0 h4)
  have HT := Lib.hid (fun W => trimS_any W l hl)
  have hd : ¬ (400 : Int) < (l.length : Int) := by omega
  cases hb : bareT l == l
  · have HR : Hid (textB l = false) := Lib.hid (by rw [HE.out, hb]; rfl)
    generalize bareT l = q at *
    clear h0 h4 HE
    go_enter Tryz.func38, Tryz.ntmps38
    go_wp2_with fail
    refine (HT.out _).mono ?_
    rintro e w1 ⟨rfl, hx⟩
    have HX := Lib.hid hx
    clear hx
    go_wp2_with fail
    go_ret
    rw [HR.out]
    exact ⟨rfl, HX.out⟩
  · have HR : Hid (textB l = l.all (fun c => printN c.toNat)) := Lib.hid (by rw [HE.out, hb]; rfl)
    generalize bareT l = q at *
    clear h0 HE
    go_enter Tryz.func38, Tryz.ntmps38
    go_wp2_with fail
    refine (HT.out _).mono ?_
    rintro e w1 ⟨rfl, hx⟩
    have HX := Lib.hid hx
    clear hx
    go_wp2_with fail
    go_loop [19] (fun s => ∃ i : Nat, i ≤ l.length ∧ s = .int .i64 (i : Int) ∧ Hid (∀ j, j < i → printN (byteAt l j) = true)) (fun s => l.length - (intOf s).toNat)
    case atStart => exact ⟨0, Nat.zero_le _, rfl, Lib.hid (fun j hj => by omega)⟩
    case round =>
      obtain ⟨i, hi, rfl, HA⟩ := hrel
      by_cases hlt : i < l.length
      · rcases printN_cases (byteAt l i) with ⟨hp, c1⟩ | ⟨hp, c1, c2⟩ | ⟨hp, c1, c2⟩
        · have HF : Hid (textB l = false) := Lib.hid (by rw [HR.out]; exact all_print_false hlt hp)
          have c1' : (byteAt l i : Int) < 32 := by omega
          clear hp
          go_wp2_with fail
          go_ret
          rw [HF.out]
          exact ⟨rfl, HX.out⟩
        · have HF : Hid (textB l = false) := Lib.hid (by rw [HR.out]; exact all_print_false hlt hp)
          have c1' : ¬ (byteAt l i : Int) < 32 := by omega
          have c2' : (126 : Int) < (byteAt l i : Int) := by omega
          clear hp
          go_wp2_with fail
          go_ret
          rw [HF.out]
          exact ⟨rfl, HX.out⟩
        · have HN : Hid (∀ j, j < i + 1 → printN (byteAt l j) = true) := Lib.hid (fun j hj => by
            rcases Nat.lt_or_ge j i with h1 | h1
            · exact HA.out j h1
            · obtain rfl : j = i := by omega
              exact hp)
          have c1' : ¬ (byteAt l i : Int) < 32 := by omega
          have c2' : ¬ (126 : Int) < (byteAt l i : Int) := by omega
          clear hp
          go_wp2_with fail
          go_round
          case rel => exact ⟨i + 1, by omega, by go_num, HN⟩
          case measure => simp [intOf]; omega
      · obtain rfl : i = l.length := by omega
        have HF : Hid (textB l = true) := Lib.hid (by rw [HR.out]; exact all_print_true HA.out)
        go_wp2_with fail
        go_ret
        rw [HF.out]
        exact ⟨rfl, HX.out⟩
/-- What number returns. -/
def NumRes (l : List UInt8) (v : Int) (ok : Bool) : Prop := (∀ n, numW l = some n → ok = true ∧ v = (n : Int)) ∧ (numW l = none → ok = true → ¬ (0 ≤ v ∧ v ≤ 9999)) ∧ -9223372036854775808 ≤ v ∧ v ≤ 9223372036854775807
theorem ext_grow (w : World) (q : Nat) (os : Array Obj) : Ext w (Go.Sort.grow (w.drewN q) os) :=
  ⟨rfl, rfl, rfl, by simp [Go.Sort.grow, World.drewN], fun i hi => by
    show ((w.drewN q).heap ++ os)[i]? = _
    rw [Array.getElem?_append_left (by show i < w.heap.size; omega)]
    rfl⟩
theorem itoa_any (w : World) (v : Int) (h0 : -9223372036854775808 ≤ v) (h1 : v ≤ 9223372036854775807) (hE : CmdEnv w) : Calls Tryz.prog 41 #[.int .i64 v] w fun e w' => e = .returned (str (Lib.itoa v)) ∧ Ext w w' := by
  refine (Tryz.strconv_Itoa v h0 h1 w hE.tab).mono ?_
  rintro e w' ⟨rfl, k, os, rfl⟩
  exact ⟨rfl, ext_grow w k os⟩
def AtoiPost (w : World) (l : List UInt8) (e : Ending) (w' : World) : Prop :=
  ((∃ v : Int, Lib.atoiAll l = .ok v ∧ -9223372036854775808 ≤ v ∧ v ≤ 9223372036854775807 ∧ e = .returned (.tuple #[.int .i64 v, .nilIface])) ∨ ((∀ v, Lib.atoiAll l ≠ .ok v) ∧ ∃ (v : Int) (t : TypeId) (p : Value), -9223372036854775808 ≤ v ∧ v ≤ 9223372036854775807 ∧ e = .returned (.tuple #[.int .i64 v, .iface t p]))) ∧ Ext w w'
theorem atoi_any (w : World) (l : List UInt8) (hl : l.length ≤ 1073741824) (hE : CmdEnv w) : Calls Tryz.prog 77 #[str l] w (AtoiPost w l) := by
  have hs : (⟨l.toArray⟩ : ByteArray).size = l.length := size_str l
  cases ha : Lib.atoiAll l with
  | ok v =>
    refine (Tryz.strconv_Atoi_ok ⟨l.toArray⟩ (by omega) v ha w).mono ?_
    rintro e w' ⟨rfl, hw⟩
    obtain ⟨b0, b1⟩ := Lib.atoiAll_bounds ha
    refine ⟨.inl ⟨v, ha, b0, b1, rfl⟩, ?_⟩
    rcases hw with rfl | ⟨t, rfl⟩
    · exact Ext.refl _
    · exact Lib.bytesWorld_below _ _ _
  | «syntax» =>
    obtain ⟨ev, h1, h2⟩ := hE.syn
    refine (Tryz.strconv_Atoi_syntax ⟨l.toArray⟩ (by omega) ha ev w h1 h2).mono ?_
    rintro e w' ⟨N, rfl, _, _, hb⟩
    refine ⟨.inr ⟨fun v h => ?_, _, _, _, by omega, by omega, rfl⟩, hb⟩
    rw [ha] at h
    cases h
  | range =>
    obtain ⟨ev, h1, h2⟩ := hE.ran
    refine (Tryz.strconv_Atoi_range ⟨l.toArray⟩ (by omega) ha ev w h1 h2).mono ?_
    rintro e w' ⟨N, rfl, _, _, hb⟩
    obtain ⟨b0, b1⟩ := Lib.atoiSat_bounds l
    refine ⟨.inr ⟨fun v h => ?_, _, _, _, b0, b1, rfl⟩, hb⟩
    rw [ha] at h
    cases h
set_option maxRecDepth 100000 in
theorem cnumber_any (w : World) (l : List UInt8) (hl : l.length ≤ 1073741824) (hE : CmdEnv w) :
    Calls Tryz.prog 57 #[str l] w fun e w' => ∃ v ok, e = .returned (.tuple #[.int .i64 v, .bool ok]) ∧ NumRes l v ok ∧ Ext w w' := by
  have HA := Lib.hid (atoi_any w l hl hE)
  have HE := Lib.hid hE
  clear hE
  go_enter Tryz.func57, Tryz.ntmps57
  go_wp2_with fail
  refine HA.out.mono ?_
  rintro e w1 ⟨⟨v, ha, b0, b1, rfl⟩ | ⟨hn, v, t, p, b0, b1, rfl⟩, hx⟩
  · have HX := Lib.hid hx
    have HI := Lib.hid (itoa_any w1 v b0 b1 (HE.out.ext hx))
    have HR : Hid (NumRes l v (Lib.itoa v == l)) := Lib.hid (by
        refine ⟨?_, ?_, b0, b1⟩
        · intro n hn
          obtain ⟨h1, h2, h3⟩ := atoi_back l n hn
          rw [ha] at h1
          injection h1 with h1
          subst h1
          exact ⟨by rw [h2]; simp, rfl⟩
        · intro hn ho hb
          have h1 : Lib.itoa v = l := by simpa using ho
          rw [atoi_num l v ha h1 hb.1 hb.2] at hn
          cases hn)
    generalize Lib.itoa v = q at *
    clear hx ha b0 b1
    go_wp2_with fail
    refine HI.out.mono ?_
    rintro e w2 ⟨rfl, hx2⟩
    have HX2 := Lib.hid (HX.out.trans hx2)
    clear hx2
    go_wp2_with fail
    go_ret2
    exact ⟨_, _, rfl, HR.out, HX2.out⟩
  · have HX := Lib.hid hx
    have HR : Hid (NumRes l v false) := Lib.hid (by
        refine ⟨fun n h => absurd (atoi_back l n h).1 (hn _), fun _ h => ?_, b0, b1⟩
        cases h)
    clear hx hn b0 b1
    go_wp2_with fail
    go_ret2
    exact ⟨_, _, rfl, HR.out, HX.out⟩
end Big
end Go.Proofs.YtoehdoghghpmjaaGreatDoor
namespace Go.Proofs.YtoehdoghghpmjaaGreatDoor
namespace Big
open Go.RowKit
@[go_sem high] theorem cells_match_str2 (l : List UInt8) : Value.cells.match_1 (fun _ => Array Value) (str l) (fun cs => cs) (fun v => #[v]) = #[str l] := rfl
end Big
end Go.Proofs.YtoehdoghghpmjaaGreatDoor
