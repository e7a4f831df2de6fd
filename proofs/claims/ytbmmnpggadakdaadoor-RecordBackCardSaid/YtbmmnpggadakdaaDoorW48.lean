import Derived.Test.YtbmmnpggadakdaaDoorW45
import Derived.Test.YtbmmnpggadakdaaDoorW37
import Derived.Test.YtbmmnpggadakdaaDoorSet8
/- RecordBack. -/
namespace Go.Proofs.YtbmmnpggadakdaaDoor
namespace Big
open Go.RowKit
theorem splitOn_none (c : UInt8) : ∀ (x : List UInt8), c ∉ x → splitOn c x = [x]
  | [], _ => rfl
  | b :: t, h => by
    have hb : b ≠ c := fun e => h (by simp [e])
    rw [splitOn, if_neg hb, splitOn_none c t (fun h' => h (List.mem_cons_of_mem _ h'))]
theorem splitOn_line (c : UInt8) (r : List UInt8) : ∀ (x : List UInt8), c ∉ x → splitOn c (x ++ c :: r) = x :: splitOn c r
  | [], _ => by rw [List.nil_append, splitOn, if_pos rfl]
  | b :: t, h => by
    have hb : b ≠ c := fun e => h (by simp [e])
    rw [List.cons_append, splitOn, if_neg hb, splitOn_line c r t (fun h' => h (List.mem_cons_of_mem _ h'))]
theorem splitOn_lines (c : UInt8) (r : List UInt8) : ∀ (ws : List (List UInt8)), (∀ x ∈ ws, c ∉ x) → splitOn c (ws.flatMap (· ++ [c]) ++ r) = ws ++ splitOn c r
  | [], _ => rfl
  | x :: ws, h => by
    rw [List.flatMap_cons, List.append_assoc, List.append_assoc, List.singleton_append, splitOn_line c _ x (h x (by simp)), splitOn_lines c r ws (fun y hy => h y (List.mem_cons_of_mem _ hy))]
    rfl
theorem hex16_no10 (n : Nat) (h : n < 18446744073709551616) : (10 : UInt8) ∉ hex16 n := by
  intro hm
  rw [hex16_fix h] at hm
  have := List.all_eq_true.1 (hexFix_low 16 n) _ hm
  revert this
  decide
theorem open_seal (ws : List (List UInt8)) (h : ∀ x ∈ ws, (10 : UInt8) ∉ x) (hl : (ws.flatMap (· ++ [10])).length ≤ 10000) : openS (sealS (ws.flatMap (· ++ [10]))) = (ws, ws.length, 0) := by
  have HB := Lib.hid (splitOn_lines 10 ([115, 117, 109, 32] ++ hex16 (fnv (ws.flatMap (· ++ [10])))) ws h)
  obtain ⟨bd, hbd⟩ : ∃ bd, ws.flatMap (· ++ [10]) = bd := ⟨_, rfl⟩
  rw [hbd] at HB hl ⊢
  have hf := fnv_lt bd
  have hh := hex16_no10 (fnv bd) hf
  have hhl : (hex16 (fnv bd)).length = 16 := by rw [hex16_fix hf, length_hexFix]
  have hu := unhex_hex hf
  have hseal : sealS bd = (bd ++ ([115, 117, 109, 32] ++ hex16 (fnv bd))) ++ [10] := by unfold sealS; simp only [List.append_assoc]
  obtain ⟨hx, hhx⟩ : ∃ hx, hex16 (fnv bd) = hx := ⟨_, rfl⟩
  rw [hhx] at hh hhl hu hseal HB
  have hw : wholeS (sealS bd) = bd ++ ([115, 117, 109, 32] ++ hx) := by
    rw [hseal]
    unfold wholeS
    rw [if_pos (by rw [List.getLast?_append, List.getLast?_singleton, Option.some_or]), List.dropLast_concat]
  have he : endedS (sealS bd) = true := by
    rw [hseal]
    unfold endedS
    rw [List.getLast?_append, List.getLast?_singleton, Option.some_or]
    rfl
  have hs : splitOn 10 (wholeS (sealS bd)) = ws ++ [[115, 117, 109, 32] ++ hx] := by
    rw [hw, HB.out, splitOn_none]
    intro hm
    rw [List.mem_append] at hm
    rcases hm with hm | hm
    · revert hm; decide
    · exact hh hm
  have hlast : lastS (sealS bd) = [115, 117, 109, 32] ++ hx := by
    unfold lastS
    rw [hs]
    simp
  have hpre : Lib.hasPrefix ([115, 117, 109, 32] ++ hx) [115, 117, 109, 32] = true := by
    unfold Lib.hasPrefix
    rw [List.isPrefixOf_iff_prefix]
    exact List.prefix_append _ _
  have htrim : Lib.trimPrefix ([115, 117, 109, 32] ++ hx) [115, 117, 109, 32] = hx := by
    unfold Lib.trimPrefix
    rw [if_pos hpre]
    rfl
  have hlen : (sealS bd).length = bd.length + 21 := by rw [hseal]; simp; omega
  have hne : sealS bd ≠ [] := by rw [hseal]; simp
  have htake : (sealS bd).take ((wholeS (sealS bd)).length - (lastS (sealS bd)).length) = bd := by
    rw [hlast, hw, List.length_append, Nat.add_sub_cancel, hseal, List.append_assoc, List.take_left']
    rfl
  unfold openS
  rw [if_neg (by omega), if_neg hne, htake, hlast, htrim, hs, he, hpre, hu]
  simp
/-- The byte that stands for a byte. -/
def cl (b : UInt8) : UInt8 := if b = 10 then 95 else b
theorem cl_ne (b : UInt8) : cl b ≠ 10 := by
  unfold cl
  split
  · decide
  · assumption
theorem cl_no10 (x : List UInt8) : (10 : UInt8) ∉ x.map cl := by
  intro h
  obtain ⟨b, _, hb⟩ := List.mem_map.1 h
  exact cl_ne b hb
def clTo (x : List UInt8) (j : Nat) : List UInt8 := (x.take j).map cl ++ x.drop j
theorem clTo_length (x : List UInt8) (j : Nat) : (clTo x j).length = x.length := by unfold clTo; simp; omega
theorem clTo_zero (x : List UInt8) : clTo x 0 = x := rfl
theorem clTo_full (x : List UInt8) : clTo x x.length = x.map cl := by unfold clTo; simp
theorem clTo_get? (x : List UInt8) (j : Nat) (h : j < x.length) : (clTo x j)[j]? = some x[j] := by
  unfold clTo
  rw [List.getElem?_append_right (by simp; omega)]
  simp [Nat.min_eq_left (Nat.le_of_lt h), List.getElem?_eq_getElem h]
theorem clTo_get (x : List UInt8) (j : Nat) (h : j < x.length) (h' : j < (clTo x j).length) : (clTo x j)[j] = x[j] := by
  have := clTo_get? x j h
  rw [List.getElem?_eq_getElem h'] at this
  injection this
theorem clTo_step (x : List UInt8) (j : Nat) (h : j < x.length) : clTo x (j + 1) = (clTo x j).set j (cl x[j]) := by
  have hl : ((x.take j).map cl).length = j := by simp; omega
  unfold clTo
  rw [List.set_append_right _ _ (by omega), hl, Nat.sub_self, List.drop_eq_getElem_cons h, List.set_cons_zero, List.take_succ_eq_append_getElem h, List.map_append, List.append_assoc]
  rfl
theorem clTo_same (x : List UInt8) (j : Nat) (h : j < x.length) (hn : x[j] ≠ 10) : clTo x (j + 1) = clTo x j := by
  rw [clTo_step x j h]
  have hc : cl x[j] = x[j] := if_neg hn
  rw [hc, ← clTo_get x j h (by rw [clTo_length]; exact h), List.set_getElem_self]
theorem recBack_long (w : World) (v : Value) (ls : List (List UInt8)) (h : ArrS w v ls) (hT : Tab16 w) (hm : MaxVar w) (hl : 40 < ls.length) :
    Calls Tryd.prog 6 #[v] w fun e w' => e = .returned (.bool true) ∧ Ext w w' := by
  have HT := Lib.hid hT
  have HM := Lib.hid hm
  obtain ⟨A, c, rfl, _, _, _⟩ := h.open
  have h' : (40 : Int) < (ls.length : Int) := by omega
  clear hT hm hl h
  go_enter Tryd.func6, Tryd.ntmps6
  go_wp2_with fail
  refine (awake34_any _ HT.out HM.out).mono ?_
  rintro e1 w1 ⟨rfl, hx1⟩
  have HX1 := Lib.hid hx1; clear hx1
  go_wp2_with fail
  go_ret
  exact ⟨rfl, HX1.out⟩
set_option maxHeartbeats 4000000 in
set_option maxRecDepth 100000 in
theorem recBack_short (w : World) (v : Value) (ls : List (List UInt8)) (h : ArrS w v ls) (hT : Tab16 w) (hm : MaxVar w) (hE : ErrVars w) (hl : ls.length ≤ 40) :
    Calls Tryd.prog 6 #[v] w fun e w' => e = .returned (.bool true) ∧ Ext w w' := by
  have HT := Lib.hid hT
  have HM := Lib.hid hm
  have HE := Lib.hid hE
  obtain ⟨A, c, rfl, hc, hmx, hcell⟩ := h.open
  have HC := Lib.hid hcell
  have h' : ¬ (40 : Int) < (ls.length : Int) := by omega
  clear hT hm hE h hcell hmx hc
  go_enter Tryd.func6, Tryd.ntmps6
  go_wp2_with fail
  refine (awake34_any _ HT.out HM.out).mono ?_
  rintro e1 w1 ⟨rfl, hx1⟩
  have HX1 := Lib.hid hx1; clear hx1
  go_wp2_with fail
  go_loopw [4, 3, 19] (fun wt bd i wr => ∃ (k : Nat) (ws : List (List UInt8)) (b0 : List UInt8), k ≤ ls.length ∧ i = .int .i64 k ∧ bd = str b0 ∧ b0.length ≤ 101 * k ∧ ws.length = k ∧
    Hid (b0 = ws.flatMap (· ++ [10]) ∧ ∀ x ∈ ws, (10 : UInt8) ∉ x) ∧ OwnS w.heap.size wr wt ws ∧ Ext w wr) (fun _ _ i _ => ls.length - (intOf i).toNat)
  case atStart => exact ⟨0, [], [], by omega, rfl, rfl, by simp, rfl, ⟨rfl, fun x hx => by simp at hx⟩, OwnS.none_ _ _, HX1.out⟩
  case round =>
    obtain ⟨k, ws, b0, hk, rfl, rfl, hb0, hws, HW, hown, hext⟩ := hrel
    generalize wr = wa at *
    have HO := Lib.hid hown
    have HX := Lib.hid hext
    have hsz := hext.size
    obtain ⟨n0, A0, c0, rfl⟩ := hown.arr.shape
    clear hown
    by_cases hlt : k < ls.length
    · obtain ⟨b, o, rfl, hbk, hcell⟩ := HC.out (by omega)
      have hx := (hext.cell hbk).trans (hcell k hlt)
      clear hcell hext
      generalize ls[k] = y at *
      by_cases hy : y.length ≤ 100
      · have h3 : ¬ (100 : Int) < (y.length : Int) := by omega
        obtain ⟨cb, hcv, harr⟩ := run_bytesAt2 wa y (by omega)
        have HFZ := Lib.hid (bytesAt_frozen wa y)
        have HXB := Lib.hid (bytesAt_ext wa y)
        have hgw := hsz
        generalize bytesAt wa y = wb at *
        obtain ⟨g, hgg⟩ : ∃ g, wa.heap.size = g := ⟨_, rfl⟩
        have hge : wa.heap.size ≤ g := by omega
        rw [hgg] at hcv HFZ harr
        clear hgw hgg
        have HARR := Lib.hid harr
        clear harr
        go_wp2_with fail
        have HARR0 : Hid (Arr8 wb (.slice (some ⟨g, 0, none⟩) y.length cb) (clTo y 0)) := HARR
        go_loopw [30] (fun i wr => ∃ j : Nat, j ≤ y.length ∧ i = .int .i64 j ∧ Arr8 wr (.slice (some ⟨g, 0, none⟩) y.length cb) (clTo y j) ∧ Hid (∀ m, m < y.length → wr.frozen? ⟨g, m, none⟩ = false) ∧ Ext wa wr) (fun i _ => y.length - (intOf i).toNat)
        case atStart => exact ⟨0, by omega, rfl, HARR0.out, HFZ, HXB.out⟩
        case round =>
          obtain ⟨j, hj, rfl, harr, hfz, hext2⟩ := hrel
          have HA := Lib.hid harr
          have HX2 := Lib.hid hext2
          have HY2 := Lib.hid (HX.out.trans hext2)
          by_cases hjl : j < y.length
          · obtain ⟨A', c', hv, _, _, hcell⟩ := harr.open
            injection hv with hv hv1 hv2
            clear hv1 hv2
            subst hv
            obtain ⟨b', o', hbo, _, hcell⟩ := hcell (by rw [clTo_length]; omega)
            injection hbo with hbo
            injection hbo with h1 h2 _
            subst h1 h2
            have hx2 := hcell j (by rw [clTo_length]; exact hjl)
            rw [Nat.zero_add, clTo_get y j hjl] at hx2
            have hf2 := hfz.out j hjl
            have HS1 := Lib.hid (clTo_step y j hjl)
            have HS2 := Lib.hid (clTo_same y j hjl)
            have HA2 := Lib.hid (Arr8.set (b := 95) harr (by rw [clTo_length]; exact hjl : j < (clTo y j).length))
            clear hcell harr hext2
            generalize y[j] = d at *
            by_cases hd : d = 10
            · subst hd
              have HA3 : Hid (Arr8 (wr.setCell ⟨g, j, none⟩ (d8 95)) (.slice (some ⟨g, 0, none⟩) y.length cb) (clTo y (j + 1))) := Lib.hid (by rw [HS1.out]; exact HA2.out)
              have HX3 := Lib.hid (HX2.out.setCell (p := ⟨g, j, none⟩) hge (d8 95))
              have HF3 : Hid (∀ m, m < y.length → (wr.setCell ⟨g, j, none⟩ (d8 95)).frozen? ⟨g, m, none⟩ = false) := Lib.hid (fun m hm => by rw [World.frozen?_setCell]; exact hfz.out m hm)
              have hx3 : wr.cell? ⟨g, j, none⟩ = some (.int .u8 10) := hx2
              have h95 : (d8 95) = .int .u8 95 := rfl
              rw [h95] at HA3 HX3 HF3
              clear hx2 HA2 HS1 HS2
              go_wp2_with fail
              go_roundw
              case rel => exact ⟨j + 1, by omega, by go_num, HA3.out, HF3, HX3.out⟩
              case measure => simp [intOf]; omega
            · have HA3 : Hid (Arr8 wr (.slice (some ⟨g, 0, none⟩) y.length cb) (clTo y (j + 1))) := Lib.hid (by rw [HS2.out hd]; exact HA.out)
              have hdd : ((d.toNat : Int) == 10) = false := by
                rw [beq_eq_false_iff_ne]
                intro e
                exact hd (UInt8.toNat_inj.1 (by simpa using (by omega : d.toNat = 10)))
              have hx3 : wr.cell? ⟨g, j, none⟩ = some (.int .u8 (d.toNat : Int)) := hx2
              clear hx2 HA2 HS1 HS2 hd
              go_wp2_with fail
              go_roundw
              case rel => exact ⟨j + 1, by omega, by go_num, HA3.out, hfz, HX2.out⟩
              case measure => simp [intOf]; omega
          · obtain rfl : j = y.length := by omega
            rw [clTo_full] at HA
            have hzl : (y.map cl).length = y.length := List.length_map _
            have HZ := Lib.hid (cl_no10 y)
            generalize y.map cl = z at *
            have hst := run_string8 HA.out
            have hadd1 : ∀ W, (binOp .add 9 (str b0) (str z)).run Tryd.prog W = .ok (str (b0 ++ z)) W := fun W => run_add_str b0 z (by omega) W
            have hadd2 : ∀ W, (binOp .add 9 (str (b0 ++ z)) (.string ⟨#[10]⟩)).run Tryd.prog W = .ok (str (b0 ++ z ++ [10])) W := fun W => run_add_str (b0 ++ z) [10] (by simp; omega) W
            have HLIM := Lib.hid (show ws.length + [z].length ≤ 2147483648 by rw [List.length_singleton]; omega)
            have HBL := Lib.hid (show (b0 ++ z ++ [10]).length ≤ 101 * (k + 1) by simp; omega)
            have HWN : Hid (b0 ++ z ++ [10] = (ws ++ [z]).flatMap (· ++ [10]) ∧ ∀ x ∈ ws ++ [z], (10 : UInt8) ∉ x) := Lib.hid ⟨by
              rw [HW.out.1, List.flatMap_append, List.append_assoc]
              simp, fun x hx => by
              rw [List.mem_append] at hx
              rcases hx with hx | hx
              · exact HW.out.2 x hx
              · simp at hx; subst hx; exact HZ.out⟩
            generalize b0 ++ z ++ [10] = b2 at *
            generalize b0 ++ z = b1 at *
            have hwsz := HY2.out.size
            clear harr hext2 hzl
            go_wp2_with (at_builtin; go_must (refine wpList_appendS rfl _ _ rfl rfl ((HO.out.ext HX2.out).ext ((Ext.refl _).alloc _)) rfl (ArrS.fresh1 wr z) HLIM.out (by simp; omega) ?_; intro v' w' hown' hgr hb1; have hst2 := run_string8 (Arr8.kept (HA.out.ext ((Ext.refl _).alloc _)) HO.out hge hgr)))
            · exfalso
              rcases h with h | h
              · exact (of_decide_eq_true h) rfl
              · exact absurd h (Nat.lt_irrefl 1)
            go_roundw
            case rel => exact ⟨k + 1, ws ++ [z], b2, by omega, by go_num, rfl, HBL.out, by simp; omega, HWN, hown', (HY2.out.alloc _).more hb1⟩
            case measure => simp [intOf]; omega
      · have h3 : (100 : Int) < (y.length : Int) := by omega
        clear hy
        go_wp2_with fail
        go_ret
        exact ⟨rfl, HX.out⟩
    · obtain rfl : k = ls.length := by omega
      have hn0 := HO.out.arr.len
      subst hn0
      have HOS : Hid (openS (sealS b0) = (ws, ws.length, 0)) := Lib.hid (by
        have h1 := open_seal ws HW.out.2 (by rw [← HW.out.1]; omega)
        rw [← HW.out.1] at h1
        exact h1)
      have hsl : (sealS b0).length = b0.length + 21 := by
        unfold sealS
        have : (hex16 (fnv b0)).length = 16 := by rw [hex16_fix (fnv_lt b0), length_hexFix]
        simp only [List.length_append, List.length_cons, List.length_nil, this]
      have HSE := Lib.hid (fun W h => seal_any W b0 (by omega) h)
      have HOP := Lib.hid (fun W h h' h'' => open_any W (sealS b0) (by omega) h h' h'')
      rw [HOS.out] at HOP
      have HSAME := Lib.hid (fun W v u h h' => sameTexts_any W v u ws ws h h' (by omega) (by omega))
      generalize sealS b0 = sb at *
      clear hext hsl hws
      go_wp2_with fail
      refine (HSE.out _ (HT.out.ext HX.out)).mono ?_
      rintro e2 w2 ⟨rfl, hx2⟩
      have HX2 := Lib.hid hx2
      have HY2 := Lib.hid (HX.out.trans hx2); clear hx2
      go_wp2_with fail
      refine (HOP.out _ (HT.out.ext HY2.out) (HM.out.ext HY2.out) (HE.out.ext HY2.out)).mono ?_
      rintro e3 w3 ⟨v3, rfl, ho3, hx3⟩
      have HX3 := Lib.hid (HX2.out.trans hx3)
      have HY3 := Lib.hid (HY2.out.trans hx3); clear hx3
      have HO3 := Lib.hid ho3.arr
      obtain ⟨n3, A3, c3, rfl⟩ := ho3.arr.shape
      clear ho3
      go_wp2_with fail
      refine (HSAME.out _ _ _ HO3.out (HO.out.arr.ext HX3.out)).mono ?_
      rintro e4 w4 ⟨rfl, hx4⟩
      have HY4 := Lib.hid (HY3.out.trans hx4); clear hx4
      simp only [decide_true]
      go_wp2_with fail
      go_ret
      exact ⟨rfl, HY4.out⟩
theorem recBack_any (w : World) (v : Value) (ls : List (List UInt8)) (h : ArrS w v ls) (hT : Tab16 w) (hm : MaxVar w) (hE : ErrVars w) :
    Calls Tryd.prog 6 #[v] w fun e w' => e = .returned (.bool true) ∧ Ext w w' := by
  rcases Nat.lt_or_ge 40 ls.length with hl | hl
  · exact recBack_long w v ls h hT hm hl
  · exact recBack_short w v ls h hT hm hE hl
end Big
end Go.Proofs.YtbmmnpggadakdaaDoor
