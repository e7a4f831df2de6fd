import Derived.Test.YtaccjdbbkmhanaaGreatDoorM36
import Derived.Test.YtaccjdbbkmhanaaGreatDoorM9
import Derived.Test.YtaccjdbbkmhanaaGreatDoorM38
import Derived.Test.YtaccjdbbkmhanaaGreatDoorM39
import Derived.Laws.StructEq
import Derived.Laws.AppendOwnNone
import Derived.Shelf.SlMaps.Clone
/- The reference's Same on nodes, decided. Printed by a program. -/
namespace Go.Proofs.YtaccjdbbkmhanaaGreatDoor
namespace Big
open Go.RowKit
/-- Same says whether two lists of nodes agree. -/
def SaysNd (l m : List Nd) (w : World) (e : Ending) (w' : World) : Prop := ∃ r : Bool, e = .returned (.bool r) ∧ (r = true ↔ l = m) ∧ Dr w w'
theorem take_stepN {l m : List Nd} {k : Nat} (h : l.take k = m.take k) (h1 : k < l.length) (h2 : k < m.length) (he : l[k] = m[k]) : l.take (k + 1) = m.take (k + 1) := by
  rw [List.take_succ_eq_append_getElem h1, List.take_succ_eq_append_getElem h2, h, he]
theorem ne_of_getN {l m : List Nd} {k : Nat} (h1 : k < l.length) (h2 : k < m.length) (he : l[k] ≠ m[k]) : l ≠ m := fun e => he (by subst e; rfl)
theorem SaysNd.no {l m : List Nd} {w w' : World} {e : Ending} (he : e = .returned (.bool false)) (h : l ≠ m) (hd : Dr w w') : SaysNd l m w e w' := ⟨false, he, ⟨fun h' => Bool.noConfusion h', fun h' => absurd h' h⟩, hd⟩
theorem SaysNd.yes {l m : List Nd} {w w' : World} {e : Ending} (he : e = .returned (.bool true)) (h : l = m) (hd : Dr w w') : SaysNd l m w e w' := ⟨true, he, ⟨fun _ => h, fun _ => rfl⟩, hd⟩
set_option maxHeartbeats 4000000 in
set_option maxRecDepth 100000 in
theorem rsameD_any (w : World) (v u : Value) (l m : List Nd) (h : RNd w v l) (h' : RNd w u m) (hn : l.length ≤ 1000000) (hn2 : m.length ≤ 1000000) : Calls Tryz.prog 13 #[v, u] w (SaysNd l m w) := by
  obtain ⟨A, c, rfl, H1⟩ := h
  obtain ⟨A', c', rfl, H2⟩ := h'
  have HH1 := Lib.hid H1
  have HH2 := Lib.hid H2
  clear H1 H2
  obtain ⟨n, hnn⟩ : ∃ n, n = l.length := ⟨_, rfl⟩
  have HN := Lib.hid hnn
  rw [← hnn] at hn ⊢
  clear hnn
  obtain ⟨q, hqq⟩ : ∃ q, q = m.length := ⟨_, rfl⟩
  have HQ := Lib.hid hqq
  rw [← hqq] at hn2 ⊢
  clear hqq
  by_cases hl : n = q
  · subst hl
    have hne0 : ((n : Int) != (n : Int)) = false := by simp
    have hne1 : ((n : Int) == (n : Int)) = true := by simp
    go_enter Tryz.func13, Tryz.ntmps13
    go_wp2_with fail
    go_loopw [8] (fun s8 wr => ∃ i : Nat, i ≤ n ∧ s8 = .int .i64 (i : Int) ∧ Hid (l.take i = m.take i) ∧ Dr w wr) (fun s8 _ => n - (intOf s8).toNat)
    case atStart => exact ⟨0, Nat.zero_le _, rfl, Lib.hid rfl, Dr.refl w⟩
    case round =>
      obtain ⟨i, hi, rfl, HTK, hd⟩ := hrel
      have HD := Lib.hid hd
      by_cases hlt : i < n
      · have hit : i < l.length := by rw [← HN.out]; exact hlt
        have hit2 : i < m.length := by rw [← HQ.out]; exact hlt
        obtain ⟨g, o, rfl, hgw, hc⟩ := HH1.out (by omega)
        obtain ⟨g', o', rfl, hgw', hc'⟩ := HH2.out (by omega)
        obtain ⟨k0, k1, k2, k3, k4⟩ := hc i hit
        obtain ⟨j0, j1, j2, j3, j4⟩ := hc' i hit2
        rw [← hd.cell] at k0 k1 k2 k3 k4 j0 j1 j2 j3 j4
        have HST := Lib.hid (fun he => take_stepN HTK.out hit hit2 he)
        have HNG := Lib.hid (fun he => ne_of_getN hit hit2 he)
        clear hc hc' hd
        have hd0 : decide ((0 : Int) ≤ (i : Int)) = true := by simp
        have hi0 : (0 : Int) ≤ (i : Int) := by omega
        have hil : (i : Int) < (n : Int) := by omega
        generalize l[i] = x at *
        generalize m[i] = z at *
        clear hit hit2
        obtain ⟨y0, y1, y2, y3, y4⟩ := x
        obtain ⟨z0, z1, z2, z3, z4⟩ := z
        simp only at k0 k1 k2 k3 k4 j0 j1 j2 j3 j4
        have hsy : str y4 = .string ⟨y4.toArray⟩ := rfl
        have hsz : str z4 = .string ⟨z4.toArray⟩ := rfl
        rw [hsy] at k4
        rw [hsz] at j4
        have hty : (⟨y4.toArray⟩ : ByteArray).toList = y4 := ByteArray.toList_mk _
        have htz : (⟨z4.toArray⟩ : ByteArray).toList = z4 := ByteArray.toList_mk _
        have HTY := Lib.hid hty
        have HTZ := Lib.hid htz
        clear hsy hsz hty htz
        by_cases e0 : y0 = z0
        case neg =>
          have b0 : (y0 == z0) = false := by rw [beq_eq_false_iff_ne]; exact e0
          have c0 : (y0 != z0) = true := by rw [bne_iff_ne]; exact e0
          have HN2 := Lib.hid (HNG.out (fun he => e0 (by injection he)))
          clear e0 HST HNG
          go_wp2_with fail
          go_quiet (fail)
          go_wp2_with fail
          go_ret
          exact SaysNd.no rfl HN2.out (HD.out.drewN _)
        case pos =>
          subst e0
          by_cases e1 : y1 = z1
          case neg =>
            have b1 : (y1 == z1) = false := by rw [beq_eq_false_iff_ne]; exact e1
            have c1 : (y1 != z1) = true := by rw [bne_iff_ne]; exact e1
            have HN2 := Lib.hid (HNG.out (fun he => e1 (by injection he)))
            clear e1 HST HNG
            go_wp2_with fail
            go_quiet (fail)
            go_wp2_with fail
            go_ret
            exact SaysNd.no rfl HN2.out (HD.out.drewN _)
          case pos =>
            subst e1
            by_cases e2 : y2 = z2
            case neg =>
              have b2 : (y2 == z2) = false := by rw [beq_eq_false_iff_ne]; exact e2
              have c2 : (y2 != z2) = true := by rw [bne_iff_ne]; exact e2
              have HN2 := Lib.hid (HNG.out (fun he => e2 (by injection he)))
              clear e2 HST HNG
              go_wp2_with fail
              go_quiet (fail)
              go_wp2_with fail
              go_ret
              exact SaysNd.no rfl HN2.out (HD.out.drewN _)
            case pos =>
              subst e2
              by_cases e3 : y3 = z3
              case neg =>
                have b3 : (y3 == z3) = false := by rw [beq_eq_false_iff_ne]; exact e3
                have c3 : (y3 != z3) = true := by rw [bne_iff_ne]; exact e3
                have HN2 := Lib.hid (HNG.out (fun he => e3 (by injection he)))
                clear e3 HST HNG
                go_wp2_with fail
                go_quiet (fail)
                go_wp2_with fail
                go_ret
                exact SaysNd.no rfl HN2.out (HD.out.drewN _)
              case pos =>
                subst e3
                by_cases e4 : y4 = z4
                case neg =>
                  have b4 : ((⟨y4.toArray⟩ : ByteArray).toList == (⟨z4.toArray⟩ : ByteArray).toList) = false := by rw [HTY.out, HTZ.out, beq_eq_false_iff_ne]; exact e4
                  have HN2 := Lib.hid (HNG.out (fun he => e4 (by injection he)))
                  clear e4 HST HNG
                  generalize (⟨y4.toArray⟩ : ByteArray) = ty at *
                  generalize (⟨z4.toArray⟩ : ByteArray) = tz at *
                  go_wp2_with fail
                  go_quiet (fail)
                  go_wp2_with fail
                  go_ret
                  exact SaysNd.no rfl HN2.out (HD.out.drewN _)
                case pos =>
                  subst e4
                  have HS2 := Lib.hid (HST.out rfl)
                  generalize (⟨y4.toArray⟩ : ByteArray) = ty at *
                  clear HST HNG
                  go_wp2_with fail
                  go_quiet (fail)
                  go_wp2_with fail
                  go_roundw
                  case rel => exact ⟨i + 1, by omega, by go_num, HS2, HD.out.drewN _⟩
                  case measure => simp [intOf]; omega
      · obtain rfl : i = n := by omega
        have HE : Hid (l = m) := Lib.hid (by
          have h1 := HTK.out
          rw [List.take_of_length_le (by rw [← HN.out]; exact Nat.le_refl _), List.take_of_length_le (by rw [← HQ.out]; exact Nat.le_refl _)] at h1
          exact h1)
        clear hd
        go_wp2_with fail
        go_ret
        exact SaysNd.yes rfl HE.out HD.out
  · have HNE : Hid (l ≠ m) := Lib.hid (fun e => hl (by rw [HN.out, HQ.out, e]))
    have hb : ((n : Int) != (q : Int)) = true := by rw [bne_iff_ne]; omega
    have hb2 : ((n : Int) == (q : Int)) = false := by rw [beq_eq_false_iff_ne]; omega
    clear hl
    go_enter Tryz.func13, Tryz.ntmps13
    go_wp2_with fail
    go_loopw [8] (fun s8 wr => s8 = .int .i64 0 ∧ Dr w wr) (fun s8 _ => n - (intOf s8).toNat)
    case atStart => exact ⟨rfl, Dr.refl w⟩
    case round =>
      obtain ⟨rfl, hd⟩ := hrel
      have HD := Lib.hid hd
      clear hd
      by_cases hlt : 0 < n
      · go_wp2_with fail
        go_quiet (fail)
        go_wp2_with fail
        go_ret
        exact SaysNd.no rfl HNE.out (HD.out.drewN _)
      · go_wp2_with fail
        go_ret
        exact SaysNd.no rfl HNE.out HD.out
end Big
end Go.Proofs.YtaccjdbbkmhanaaGreatDoor
/- mill.SameTexts. -/
namespace Go.Proofs.YtaccjdbbkmhanaaGreatDoor
namespace Big
open Go.RowKit
set_option maxRecDepth 100000 in
theorem msame_any (w : World) (v u : Value) (ls ms : List (List UInt8)) (h : ArrS w v ls) (h' : ArrS w u ms) (hn : ls.length ≤ 1073741824) (hn' : ms.length ≤ 1073741824) :
    Calls Tryz.prog 42 #[v, u] w fun e w' => e = .returned (.bool (decide (ls = ms))) ∧ Ext w w' := by
  obtain ⟨A, c, rfl, hc, hm, hcell⟩ := h.open
  obtain ⟨A', c', rfl, hc', hm', hcell'⟩ := h'.open
  have HC := Lib.hid hcell
  have HC' := Lib.hid hcell'
  clear hcell hcell' hm hm' hc hc' h h'
  by_cases hl : ls.length = ms.length
  · have hb : ((ls.length : Int) != (ms.length : Int)) = false := by rw [hl]; simp
    have hb2 : ((ls.length : Int) == (ms.length : Int)) = true := by rw [hl]; simp
    have HL := Lib.hid hl
    clear hl
    go_enter Tryz.func42, Tryz.ntmps42
    go_wp2_with fail
    go_loopw [8] (fun i wr => ∃ k : Nat, k ≤ ls.length ∧ i = .int .i64 k ∧ Hid (ls.take k = ms.take k) ∧ Ext w wr) (fun i _ => ls.length - (intOf i).toNat)
    case atStart => exact ⟨0, by omega, rfl, rfl, Ext.refl _⟩
    case round =>
      obtain ⟨k, hk, rfl, HK, hext⟩ := hrel
      by_cases hlt : k < ls.length
      · have hlt2 : k < ms.length := by have := HL.out; omega
        obtain ⟨b, o, rfl, hbk, hcell⟩ := HC.out (by omega)
        obtain ⟨b', o', rfl, hbk', hcell'⟩ := HC'.out (by omega)
        have hx := (hext.cell hbk).trans (hcell k hlt)
        have hy := (hext.cell hbk').trans (hcell' k hlt2)
        have HST := Lib.hid (fun he => take_step HK.out hlt hlt2 he)
        have HNE : Hid (ls[k] ≠ ms[k] → decide (ls = ms) = false) := Lib.hid (fun he => by
          rw [decide_eq_false_iff_not]
          intro e
          subst e
          exact he rfl)
        clear hcell hcell'
        generalize ls[k] = x at *
        generalize ms[k] = y at *
        have HX := Lib.hid hext
        clear hext
        have h0 : (0 : Int) ≤ (k : Int) := by omega
        have h1 : (k : Int) < (ls.length : Int) := by omega
        have h2 : (k : Int) < (ms.length : Int) := by omega
        by_cases he : x = y
        · subst he
          have HT := Lib.hid (HST.out rfl)
          go_wp2_with fail
          go_quiet (fail)
          go_wp2_with fail
          go_roundw
          case rel => exact ⟨k + 1, by omega, by go_num, HT, HX.out.drewN _⟩
          case measure => simp [intOf]; omega
        · have hxy : (x == y) = false := by rw [beq_eq_false_iff_ne]; exact he
          have HD := Lib.hid (HNE.out he)
          clear he
          go_wp2_with fail
          go_quiet (fail)
          go_wp2_with fail
          go_ret
          rw [HD.out]
          exact ⟨rfl, HX.out.drewN _⟩
      · obtain rfl : k = ls.length := by omega
        have HD : Hid (decide (ls = ms) = true) := Lib.hid (by
          rw [decide_eq_true_iff]
          have h1 := HK.out
          rw [List.take_of_length_le (Nat.le_refl _), List.take_of_length_le (by rw [HL.out]; exact Nat.le_refl _)] at h1
          exact h1)
        go_wp2_with fail
        go_ret
        rw [HD.out]
        exact ⟨rfl, hext⟩
  · have hb : ((ls.length : Int) != (ms.length : Int)) = true := by rw [bne_iff_ne]; omega
    have hb2 : ((ls.length : Int) == (ms.length : Int)) = false := by rw [beq_eq_false_iff_ne]; omega
    have HD : Hid (decide (ls = ms) = false) := Lib.hid (by
      rw [decide_eq_false_iff_not]
      intro e
      exact hl (by rw [e]))
    clear hl
    go_enter Tryz.func42, Tryz.ntmps42
    go_wp2_with fail
    go_loopw [8] (fun i wr => i = .int .i64 0 ∧ Ext w wr) (fun i _ => ls.length - (intOf i).toNat)
    case atStart => exact ⟨rfl, Ext.refl _⟩
    case round =>
      obtain ⟨rfl, hext⟩ := hrel
      by_cases hlt : 0 < ls.length
      · have HX := Lib.hid hext
        clear hext
        go_wp2_with fail
        go_quiet (fail)
        go_wp2_with fail
        go_ret
        rw [HD.out]
        exact ⟨rfl, HX.out.drewN _⟩
      · go_wp2_with fail
        go_ret
        rw [HD.out]
        exact ⟨rfl, hext⟩
end Big
end Go.Proofs.YtaccjdbbkmhanaaGreatDoor
/- The law's same: a graph of the program's and one of the document's with the same nodes. Printed by a program. -/
namespace Go.Proofs.YtaccjdbbkmhanaaGreatDoor
namespace Big
open Go.RowKit
set_option maxHeartbeats 8000000 in
set_option maxRecDepth 100000 in
theorem same21_any (B g b B' gr : Nat) (w : World) (ns : List Nd) (nv rv : Value) (h : GrP B g b w ns nv) (h' : GrR B' gr w ns rv) :
    Calls Tryz.prog 20 #[.pointer (some ⟨g, 0, none⟩), .pointer (some ⟨gr, 0, none⟩)] w fun e w' => e = .returned (.bool true) ∧ Ext w w' := by
  have hfew := h.few
  have HLE := Lib.hid (fun W (hx : Ext w W) => (glen_any B g b W ns nv (h.keep hx)).mono (fun e w' ⟨p, q⟩ => (⟨p, by rw [← q]; exact Ext.refl W⟩ : e = Ending.returned (.int .i64 (ns.length : Int)) ∧ Ext W w')))
  have HND := Lib.hid (fun W (hx : Ext w W) => gnodes_any B g b W ns nv (h.keep hx))
  have HSM := Lib.hid (fun W v (hx : Ext w W) (hr : RNd W v ns) => (rsameD_any W v rv ns ns hr ((h'.keep hx).row.read) (by omega) (by omega)).mono (fun e w' ⟨r, p, q, d⟩ => (⟨by rw [p, q.2 rfl], d.ext⟩ : e = Ending.returned (.bool true) ∧ Ext W w')))
  have HNO := Lib.hid (fun W (i : Int) (hx : Ext w W) => gnode_any B g b W ns nv (h.keep hx) i)
  have HHA := Lib.hid (fun W (i : Int) (hx : Ext w W) => has_any B' gr W ns rv (h'.keep hx) i)
  have HDG := Lib.hid (fun W (i : Int) (hx : Ext w W) => gdepth_any B g b W ns nv (h.keep hx) i)
  have HDR := Lib.hid (fun W (i : Int) (hx : Ext w W) => rdepth_any B' gr W ns rv (h'.keep hx) i)
  have HNG := Lib.hid (fun W (i : Int) (hx : Ext w W) => gnames_any B g b W ns nv (h.keep hx) i)
  have HNR := Lib.hid (fun W (i : Int) (hx : Ext w W) => rnames_anyG B' gr W ns rv (h'.keep hx) i)
  unfold NamesPost at HNG HNR
  have HST := Lib.hid (fun (W : World) v u l (h1 : ArrS W v l) (h2 : ArrS W u l) (hl : l.length ≤ 1000000) => (msame_any W v u l l h1 h2 (by omega) (by omega)).mono (fun e w' ⟨p, q⟩ => (⟨by rw [p, decide_eq_true rfl], q⟩ : e = Ending.returned (.bool true) ∧ Ext W w')))
  have HOK := Lib.hid h.ok
  obtain ⟨j0, j1, jhz⟩ := h'.blk.oneG
  have HJ := Lib.hid j0
  obtain ⟨A, c, hrv, hcl⟩ := h'.row.read
  subst hrv
  have HCL := Lib.hid hcl
  have HVI := Lib.hid (fun (k : Nat) (hk : k < ns.length) => nodeV_in hk)
  have HVO := Lib.hid (fun (i : Int) (hi : i < 0 ∨ (ns.length : Int) ≤ i) => nodeV_out hi)
  have hE : ndV ⟨0, 0, 0, 0, []⟩ = .agg #[.int .i64 0, .int .i64 0, .int .i64 0, .int .i64 0, .string ⟨#[]⟩] := rfl
  rw [hE] at HVO
  have hgz := h.lt
  clear h h' hcl j0 j1 hE
  go_enter Tryz.func20, Tryz.ntmps20
  go_upto_region 1 with fail
  refine wp_region_held_drew (S := fun w' => Ext w w' ∧ w'.cell? ⟨gr, 0, none⟩ = some (.slice A ns.length c)) (by kernel_rfl) (by exact kept1_drew HJ.out) (fun hHeld => ?_)
  refine' wpAnyH_take (i := 0) (oi := ⟨some 8, _, _, _, _, _⟩) (v := _) rfl (by kernel_rfl) (by kernel_rfl) (by kernel_rfl) (fun _ _ _ h => h) (Or.inl ⟨by rfl, ?_⟩) hHeld ?_
  rotate_left
  · (intro w' hSw; (try dsimp only at hSw); go_simp; (try with_reducible rfl))
  try simp only [Act.put, List.setIfInBounds_toArray, List.set_cons_zero, List.set_cons_succ]
  refine' wpAnyH_take (i := 1) (oi := ⟨some 9, _, _, _, _, _⟩) (v := _) rfl (by kernel_rfl) (by kernel_rfl) (by kernel_rfl) (fun _ _ _ h => h) (Or.inl ⟨by rfl, ?_⟩) hHeld ?_
  rotate_left
  · (intro w' hSw; (try dsimp only at hSw); go_simp; (try with_reducible rfl))
  try simp only [Act.put, List.setIfInBounds_toArray, List.set_cons_zero, List.set_cons_succ]
  refine' wpAnyH_take (i := 2) (oi := ⟨some 10, _, _, _, _, _⟩) (v := _) rfl (by kernel_rfl) (by kernel_rfl) (by kernel_rfl) (fun _ _ _ h => h) (Or.inl ⟨by rfl, ?_⟩) hHeld ?_
  rotate_left
  · (intro w' hSw; (try dsimp only at hSw); go_simp; (try with_reducible rfl))
  try simp only [Act.put, List.setIfInBounds_toArray, List.set_cons_zero, List.set_cons_succ]
  refine' wpAnyH_take (i := 4) (oi := ⟨some 12, _, _, _, _, _⟩) (v := _) rfl (by kernel_rfl) (by kernel_rfl) (by kernel_rfl) (fun _ _ _ h => h) (Or.inl ⟨by rfl, ?_⟩) hHeld ?_
  rotate_left
  · (intro w' hSw; (try dsimp only at hSw); go_simp; (try with_reducible rfl))
  try simp only [Act.put, List.setIfInBounds_toArray, List.set_cons_zero, List.set_cons_succ]
  refine' wpAnyH_take (i := 5) (oi := ⟨some 13, _, _, _, _, _⟩) (v := _) rfl (by kernel_rfl) (by kernel_rfl) (by kernel_rfl) (fun _ _ _ h => h) (Or.inl ⟨by rfl, ?_⟩) hHeld ?_
  rotate_left
  · (intro w' hSw; (try dsimp only at hSw); go_simp; (try with_reducible rfl))
  try simp only [Act.put, List.setIfInBounds_toArray, List.set_cons_zero, List.set_cons_succ]
  refine' wpAnyH_take (i := 6) (oi := ⟨some 14, _, _, _, _, _⟩) (v := _) rfl (by kernel_rfl) (by kernel_rfl) (by kernel_rfl) (fun _ _ _ h => h) (Or.inl ⟨by rfl, ?_⟩) hHeld ?_
  rotate_left
  · (intro w' hSw; (try dsimp only at hSw); go_simp; (try with_reducible rfl))
  try simp only [Act.put, List.setIfInBounds_toArray, List.set_cons_zero, List.set_cons_succ]
  refine' wpAnyH_take (i := 7) (oi := ⟨some 15, _, _, _, _, _⟩) (v := _) rfl (by kernel_rfl) (by kernel_rfl) (by kernel_rfl) (fun _ _ _ h => h) (Or.inl ⟨by rfl, ?_⟩) hHeld ?_
  rotate_left
  · (intro w' hSw; (try dsimp only at hSw); go_simp; (try with_reducible rfl))
  try simp only [Act.put, List.setIfInBounds_toArray, List.set_cons_zero, List.set_cons_succ]
  refine' wpAnyH_take (i := 8) (oi := ⟨some 16, _, _, _, _, _⟩) (v := _) rfl (by kernel_rfl) (by kernel_rfl) (by kernel_rfl) (fun _ _ _ h => h) (Or.inl ⟨by rfl, ?_⟩) hHeld ?_
  rotate_left
  · (intro w' hSw; (try dsimp only at hSw); go_simp; (try with_reducible rfl))
  try simp only [Act.put, List.setIfInBounds_toArray, List.set_cons_zero, List.set_cons_succ]
  refine wpAnyH_ready (rs := [3]) (by kernel_rfl) (by simp) ?_
  refine AllReadyH.cons (i := 3) rfl (fun K hK => ?_) AllReadyH.nil
  go_simp
  (go_at_call 12; refine (HLE.out _ hHeld.1).mono ?_; rintro e w5 ⟨rfl, hx5⟩)
  try go_wp2_with fail
  refine hK.out _ _ ?_ (fun hHeld => ?_)
  · exact kept1 hHeld hx5
  clear hK K
  try simp only [Act.put, List.setIfInBounds_toArray, List.set_cons_zero, List.set_cons_succ]
  refine' wpAnyH_take (i := 9) (oi := ⟨some 17, _, _, _, _, _⟩) (v := _) rfl (by kernel_rfl) (by kernel_rfl) (by kernel_rfl) (fun _ _ _ h => h) (Or.inl ⟨by rfl, ?_⟩) hHeld ?_
  rotate_left
  · (intro w' hSw; (try dsimp only at hSw); go_simp; (try with_reducible rfl))
  try simp only [Act.put, List.setIfInBounds_toArray, List.set_cons_zero, List.set_cons_succ]
  refine' wpAnyH_take (i := 10) (oi := ⟨some 18, _, _, _, _, _⟩) (v := _) rfl (by kernel_rfl) (by kernel_rfl) (by kernel_rfl) (fun _ _ _ h => h) (Or.inl ⟨by rfl, ?_⟩) hHeld ?_
  rotate_left
  · (intro w' hSw; (try dsimp only at hSw); go_simp; (try with_reducible rfl))
  try simp only [Act.put, List.setIfInBounds_toArray, List.set_cons_zero, List.set_cons_succ]
  refine' wpAnyH_take (i := 11) (oi := ⟨some 19, _, _, _, _, _⟩) (v := _) rfl (by kernel_rfl) (by kernel_rfl) (by kernel_rfl) (fun _ _ _ h => h) (Or.inl ⟨by rfl, ?_⟩) hHeld ?_
  rotate_left
  · (intro w' hSw; (try dsimp only at hSw); go_simp; (try with_reducible rfl))
  try simp only [Act.put, List.setIfInBounds_toArray, List.set_cons_zero, List.set_cons_succ]
  refine' wpAnyH_take (i := 13) (oi := ⟨some 21, _, _, _, _, _⟩) (v := _) rfl (by kernel_rfl) (by kernel_rfl) (by kernel_rfl) (fun _ _ _ h => h) (Or.inl ⟨by rfl, ?_⟩) hHeld ?_
  rotate_left
  · (intro w' hSw; (try dsimp only at hSw); go_simp; (try with_reducible rfl))
  try simp only [Act.put, List.setIfInBounds_toArray, List.set_cons_zero, List.set_cons_succ]
  refine' wpAnyH_take (i := 14) (oi := ⟨some 22, _, _, _, _, _⟩) (v := _) rfl (by kernel_rfl) (by kernel_rfl) (by kernel_rfl) (fun _ _ _ h => h) (Or.inl ⟨by rfl, ?_⟩) hHeld ?_
  rotate_left
  · (intro w' hSw; (try dsimp only at hSw); go_simp; (try with_reducible rfl))
  try simp only [Act.put, List.setIfInBounds_toArray, List.set_cons_zero, List.set_cons_succ]
  refine' wpAnyH_take (i := 15) (oi := ⟨some 23, _, _, _, _, _⟩) (v := _) rfl (by kernel_rfl) (by kernel_rfl) (by kernel_rfl) (fun _ _ _ h => h) (Or.inl ⟨by rfl, ?_⟩) hHeld ?_
  rotate_left
  · (intro w' hSw; (try dsimp only at hSw); go_simp; (try with_reducible rfl))
  try simp only [Act.put, List.setIfInBounds_toArray, List.set_cons_zero, List.set_cons_succ]
  refine' wpAnyH_take (i := 16) (oi := ⟨some 24, _, _, _, _, _⟩) (v := _) rfl (by kernel_rfl) (by kernel_rfl) (by kernel_rfl) (fun _ _ _ h => h) (Or.inl ⟨by rfl, ?_⟩) hHeld ?_
  rotate_left
  · (intro w' hSw; (try dsimp only at hSw); go_simp; (try with_reducible rfl))
  try simp only [Act.put, List.setIfInBounds_toArray, List.set_cons_zero, List.set_cons_succ]
  refine wpAnyH_ready (rs := [12]) (by kernel_rfl) (by simp) ?_
  refine AllReadyH.cons (i := 12) rfl (fun K hK => ?_) AllReadyH.nil
  go_simp
  (go_at_call 19; refine (HND.out _ hHeld.1).mono ?_; rintro e w6 ⟨v6, rfl, ho6, hx6⟩; have HO6 := Lib.hid ho6.read; obtain ⟨A6, c6, rfl⟩ := ho6.shape; clear ho6)
  try go_wp2_with fail
  refine hK.out _ _ ?_ (fun hHeld => ?_)
  · exact kept1 hHeld hx6
  clear hK K
  try simp only [Act.put, List.setIfInBounds_toArray, List.set_cons_zero, List.set_cons_succ]
  refine wpAnyH_ready (rs := [17]) (by kernel_rfl) (by simp) ?_
  refine AllReadyH.cons (i := 17) rfl (fun K hK => ?_) AllReadyH.nil
  go_simp
  (go_at_call 13; refine (HSM.out _ _ hHeld.1 HO6.out).mono ?_; rintro e w7 ⟨rfl, hx7⟩)
  try go_wp2_with fail
  refine hK.out _ _ ?_ (fun hHeld => ?_)
  · exact kept1 hHeld hx7
  clear hK K
  try simp only [Act.put, List.setIfInBounds_toArray, List.set_cons_zero, List.set_cons_succ]
  refine' wpAnyH_take (i := 18) (oi := ⟨some 26, _, _, _, _, _⟩) (v := _) rfl (by kernel_rfl) (by kernel_rfl) (by kernel_rfl) (fun _ _ _ h => h) (Or.inl ⟨by rfl, ?_⟩) hHeld ?_
  rotate_left
  · (intro w' hSw; (try dsimp only at hSw); go_simp; (try with_reducible rfl))
  try simp only [Act.put, List.setIfInBounds_toArray, List.set_cons_zero, List.set_cons_succ]
  refine wpAnyH_ready (rs := [19]) (by kernel_rfl) (by simp) ?_
  refine AllReadyH.cons (i := 19) rfl (fun K hK => ?_) AllReadyH.nil
  go_simp
  try go_wp2_with fail
  refine hK.out _ _ ?_ (fun hHeld => ?_)
  · exact hHeld
  clear hK K
  try simp only [Act.put, List.setIfInBounds_toArray, List.set_cons_zero, List.set_cons_succ]
  refine wpAnyH_done (by kernel_rfl) ?_ _
  have HX := Lib.hid hHeld.1
  clear hHeld hx5 hx6 hx7 HO6
  clear HLE HND HSM
  go_wp2_with fail
  go_loopw [5] (fun s5 wr => ∃ z : Int, -1 ≤ z ∧ z ≤ (ns.length : Int) + 1 ∧ s5 = .int .i64 z ∧ Ext w wr) (fun s5 _ => ((ns.length : Int) + 1 - intOf s5).toNat)
  case atStart => exact ⟨-1, by omega, by omega, rfl, HX.out⟩
  case round =>
    clear HX
    obtain ⟨z, hz0, hz1, rfl, hx⟩ := hrel
    have HX := Lib.hid hx
    have k0 := hx.keep HJ.out
    clear hx
    by_cases hzn : z ≤ (ns.length : Int)
    · have hwz : IntKind.i64.wrap (z + 1) = z + 1 := IntWalk.i64_in _ (by omega)
      have hdz : decide (z ≤ (ns.length : Int)) = true := decide_eq_true hzn
      have HNE := Lib.hid (HNO.out wr z HX.out)
      by_cases hin : 0 ≤ z ∧ z < (ns.length : Int)
      · obtain ⟨k, rfl⟩ : ∃ k : Nat, (k : Int) = z := ⟨z.toNat, by omega⟩
        have hk : k < ns.length := by omega
        rw [HVI.out k hk] at HNE
        have HHE := Lib.hid (fun W hx => (decide_eq_true hin) ▸ HHA.out W (k : Int) hx)
        obtain ⟨gb, o, rfl, hgw, hc⟩ := HCL.out (by omega)
        have hkk := hc k hk
        generalize ns[k] = x at *
        clear hc hk
        obtain ⟨y0, y1, y2, y3, y4⟩ := x
        simp only [ndV] at HNE
        have hkk' : w.cell? ⟨gb, o + k * 5, none⟩ = some (.int .i64 y0) ∧ w.cell? ⟨gb, o + k * 5 + 1, none⟩ = some (.int .i64 y1) ∧ w.cell? ⟨gb, o + k * 5 + 2, none⟩ = some (.int .i64 y2) ∧ w.cell? ⟨gb, o + k * 5 + 3, none⟩ = some (.int .i64 y3) ∧ w.cell? ⟨gb, o + k * 5 + 4, none⟩ = some (str y4) := hkk
        obtain ⟨s, hs⟩ : ∃ s : ByteArray, s = ⟨(y4 : List UInt8).toArray⟩ := ⟨_, rfl⟩
        have hst : str y4 = .string s := by rw [hs]; rfl
        rw [hst] at hkk' HNE
        have HKK := Lib.hid hkk'
        have hk0 : (0 : Int) ≤ (k : Int) := by omega
        have hk1 : (k : Int) < (ns.length : Int) := by omega
        clear hs hst hkk hkk' hin hz0 hz1
        go_wp2_with fail
        refine HNE.out.mono ?_
        rintro e w2 ⟨rfl, hx2⟩
        have HX2 := Lib.hid (HX.out.trans hx2)
        clear hx2 k0
        have HB := Lib.hid (Blk.new w2 50 #[.int .i64 y0, .int .i64 y1, .int .i64 y2, .int .i64 y3, .string s])
        have HX3 := Lib.hid (HX2.out.alloc (.cells #[.int .i64 y0, .int .i64 y1, .int .i64 y2, .int .i64 y3, .string s] 50))
        obtain ⟨nb, hnb⟩ : ∃ nb, nb = w2.heap.size := ⟨_, rfl⟩
        obtain ⟨w3, hw3⟩ : ∃ w3, w3 = w2.alloc (.cells #[.int .i64 y0, .int .i64 y1, .int .i64 y2, .int .i64 y3, .string s] 50) := ⟨_, rfl⟩
        rw [← hw3, ← hnb] at HB
        rw [← hw3] at HX3
        go_upto_region 7 with fail
        rw [← hw3, ← hnb]
        clear hw3 hnb HX2 HNE
        obtain ⟨q0, q1, q2, q3, q4⟩ := HB.out.five
        have HQ := Lib.hid (And.intro q0 (And.intro q1 (And.intro q2 (And.intro q3 q4))))
        clear q0 q1 q2 q3 q4
        have HKP : Hid (∀ w1 w2, (fun w' : World => Ext w3 w' ∧ w'.cell? ⟨gr, 0, none⟩ = some (.slice (some ⟨gb, o, none⟩) ns.length c) ∧ w'.cell? ⟨nb, 0, none⟩ = some (.int .i64 y0) ∧ w'.cell? ⟨nb, 1, none⟩ = some (.int .i64 y1) ∧ w'.cell? ⟨nb, 2, none⟩ = some (.int .i64 y2) ∧ w'.cell? ⟨nb, 3, none⟩ = some (.int .i64 y3) ∧ w'.cell? ⟨nb, 4, none⟩ = some (.string s) ∧ w'.cell? ⟨gb, o + k * 5, none⟩ = some (.int .i64 y0) ∧ w'.cell? ⟨gb, o + k * 5 + 1, none⟩ = some (.int .i64 y1) ∧ w'.cell? ⟨gb, o + k * 5 + 2, none⟩ = some (.int .i64 y2) ∧ w'.cell? ⟨gb, o + k * 5 + 3, none⟩ = some (.int .i64 y3) ∧ w'.cell? ⟨gb, o + k * 5 + 4, none⟩ = some (.string s)) w1 → Ext w1 w2 → (fun w' : World => Ext w3 w' ∧ w'.cell? ⟨gr, 0, none⟩ = some (.slice (some ⟨gb, o, none⟩) ns.length c) ∧ w'.cell? ⟨nb, 0, none⟩ = some (.int .i64 y0) ∧ w'.cell? ⟨nb, 1, none⟩ = some (.int .i64 y1) ∧ w'.cell? ⟨nb, 2, none⟩ = some (.int .i64 y2) ∧ w'.cell? ⟨nb, 3, none⟩ = some (.int .i64 y3) ∧ w'.cell? ⟨nb, 4, none⟩ = some (.string s) ∧ w'.cell? ⟨gb, o + k * 5, none⟩ = some (.int .i64 y0) ∧ w'.cell? ⟨gb, o + k * 5 + 1, none⟩ = some (.int .i64 y1) ∧ w'.cell? ⟨gb, o + k * 5 + 2, none⟩ = some (.int .i64 y2) ∧ w'.cell? ⟨gb, o + k * 5 + 3, none⟩ = some (.int .i64 y3) ∧ w'.cell? ⟨gb, o + k * 5 + 4, none⟩ = some (.string s)) w2) := Lib.hid (fun w1 w2 h hx => by
          obtain ⟨p0, p1, p2, p3, p4, p5, p6, p7, p8, p9, p10, p11⟩ := h
          exact ⟨p0.trans hx, hx.keep p1, hx.keep p2, hx.keep p3, hx.keep p4, hx.keep p5, hx.keep p6, hx.keep p7, hx.keep p8, hx.keep p9, hx.keep p10, hx.keep p11⟩)
        refine wp_region_held_drew (S := fun w' => Ext w3 w' ∧ w'.cell? ⟨gr, 0, none⟩ = some (.slice (some ⟨gb, o, none⟩) ns.length c) ∧ w'.cell? ⟨nb, 0, none⟩ = some (.int .i64 y0) ∧ w'.cell? ⟨nb, 1, none⟩ = some (.int .i64 y1) ∧ w'.cell? ⟨nb, 2, none⟩ = some (.int .i64 y2) ∧ w'.cell? ⟨nb, 3, none⟩ = some (.int .i64 y3) ∧ w'.cell? ⟨nb, 4, none⟩ = some (.string s) ∧ w'.cell? ⟨gb, o + k * 5, none⟩ = some (.int .i64 y0) ∧ w'.cell? ⟨gb, o + k * 5 + 1, none⟩ = some (.int .i64 y1) ∧ w'.cell? ⟨gb, o + k * 5 + 2, none⟩ = some (.int .i64 y2) ∧ w'.cell? ⟨gb, o + k * 5 + 3, none⟩ = some (.int .i64 y3) ∧ w'.cell? ⟨gb, o + k * 5 + 4, none⟩ = some (.string s)) (by kernel_rfl) (by exact ⟨(Ext.refl w3).drew, HX3.out.keep HJ.out, HQ.out.1, HQ.out.2.1, HQ.out.2.2.1, HQ.out.2.2.2.1, HQ.out.2.2.2.2, HX3.out.keep HKK.out.1, HX3.out.keep HKK.out.2.1, HX3.out.keep HKK.out.2.2.1, HX3.out.keep HKK.out.2.2.2.1, HX3.out.keep HKK.out.2.2.2.2⟩) (fun hHeld => ?_)
        refine' wpAnyH_take (i := 0) (oi := ⟨some 43, _, _, _, _, _⟩) (v := _) rfl (by kernel_rfl) (by kernel_rfl) (by kernel_rfl) (fun _ _ _ h => h) (Or.inl ⟨by rfl, ?_⟩) hHeld ?_
        rotate_left
        · (intro w' hSw; (try dsimp only at hSw); go_simp; (try with_reducible rfl))
        try simp only [Act.put, List.setIfInBounds_toArray, List.set_cons_zero, List.set_cons_succ]
        refine' wpAnyH_take (i := 1) (oi := ⟨some 44, _, _, _, _, _⟩) (v := _) rfl (by kernel_rfl) (by kernel_rfl) (by kernel_rfl) (fun _ _ _ h => h) (Or.inl ⟨by rfl, ?_⟩) hHeld ?_
        rotate_left
        · (intro w' hSw; (try dsimp only at hSw); go_simp; (try with_reducible rfl))
        try simp only [Act.put, List.setIfInBounds_toArray, List.set_cons_zero, List.set_cons_succ]
        refine' wpAnyH_take (i := 2) (oi := ⟨some 45, _, _, _, _, _⟩) (v := _) rfl (by kernel_rfl) (by kernel_rfl) (by kernel_rfl) (fun _ _ _ h => h) (Or.inl ⟨by rfl, ?_⟩) hHeld ?_
        rotate_left
        · (intro w' hSw; (try dsimp only at hSw); go_simp; (try with_reducible rfl))
        try simp only [Act.put, List.setIfInBounds_toArray, List.set_cons_zero, List.set_cons_succ]
        refine wpAnyH_ready (rs := [3]) (by kernel_rfl) (by simp) ?_
        refine AllReadyH.cons (i := 3) rfl (fun K hK => ?_) AllReadyH.nil
        go_simp
        (go_at_call 39; refine (HHE.out _ (HX3.out.trans hHeld.1)).mono ?_; rintro e w6 ⟨rfl, hx6⟩)
        try go_wp2_with fail
        refine hK.out _ _ ?_ (fun hHeld => ?_)
        · exact HKP.out _ _ hHeld hx6
        clear hK K
        try simp only [Act.put, List.setIfInBounds_toArray, List.set_cons_zero, List.set_cons_succ]
        refine' wpAnyH_take (i := 4) (oi := ⟨some 47, _, _, _, _, _⟩) (v := _) rfl (by kernel_rfl) (by kernel_rfl) (by kernel_rfl) (fun _ _ _ h => h) (Or.inl ⟨by rfl, ?_⟩) hHeld ?_
        rotate_left
        · (intro w' hSw; (try dsimp only at hSw); go_simp; (try with_reducible rfl))
        try simp only [Act.put, List.setIfInBounds_toArray, List.set_cons_zero, List.set_cons_succ]
        refine' wpAnyH_take (i := 5) (oi := ⟨some 48, _, _, _, _, _⟩) (v := _) rfl (by kernel_rfl) (by kernel_rfl) (by kernel_rfl) (fun _ _ _ h => h) (Or.inl ⟨by rfl, ?_⟩) hHeld ?_
        rotate_left
        · (intro w' hSw; (try dsimp only at hSw); go_simp; (try with_reducible rfl))
        try simp only [Act.put, List.setIfInBounds_toArray, List.set_cons_zero, List.set_cons_succ]
        refine' wpAnyH_take (i := 6) (oi := ⟨some 49, _, _, _, _, _⟩) (v := _) rfl (by kernel_rfl) (by kernel_rfl) (by kernel_rfl) (fun _ _ _ h => h) (Or.inl ⟨by rfl, ?_⟩) hHeld ?_
        rotate_left
        · (intro w' hSw; (try dsimp only at hSw); go_simp; (try with_reducible rfl))
        try simp only [Act.put, List.setIfInBounds_toArray, List.set_cons_zero, List.set_cons_succ]
        refine' wpAnyH_take (i := 7) (oi := ⟨some 50, _, _, _, _, _⟩) (v := _) rfl (by kernel_rfl) (by kernel_rfl) (by kernel_rfl) (fun _ _ _ h => h) (Or.inl ⟨by rfl, ?_⟩) hHeld ?_
        rotate_left
        · (intro w' hSw; (try dsimp only at hSw); go_simp; (try with_reducible rfl))
        try simp only [Act.put, List.setIfInBounds_toArray, List.set_cons_zero, List.set_cons_succ]
        refine' wpAnyH_take (i := 8) (oi := ⟨some 51, _, _, _, _, _⟩) (v := _) rfl (by kernel_rfl) (by kernel_rfl) (by kernel_rfl) (fun _ _ _ h => h) (Or.inl ⟨by rfl, ?_⟩) hHeld ?_
        rotate_left
        · (intro w' hSw; (try dsimp only at hSw); go_simp; (try with_reducible rfl))
        try simp only [Act.put, List.setIfInBounds_toArray, List.set_cons_zero, List.set_cons_succ]
        refine' wpAnyH_take (i := 9) (oi := ⟨some 52, _, _, _, _, _⟩) (v := _) rfl (by kernel_rfl) (by kernel_rfl) (by kernel_rfl) (fun _ _ _ h => h) (Or.inl ⟨by rfl, ?_⟩) hHeld ?_
        rotate_left
        · (intro w' hSw; (try dsimp only at hSw); go_simp; (try with_reducible rfl))
        try simp only [Act.put, List.setIfInBounds_toArray, List.set_cons_zero, List.set_cons_succ]
        refine' wpAnyH_take (i := 10) (oi := ⟨some 53, _, _, _, _, _⟩) (v := _) rfl (by kernel_rfl) (by kernel_rfl) (by kernel_rfl) (fun _ _ _ h => h) (Or.inl ⟨by rfl, ?_⟩) hHeld ?_
        rotate_left
        · (intro w' hSw; (try dsimp only at hSw); go_simp; (try with_reducible rfl))
        try simp only [Act.put, List.setIfInBounds_toArray, List.set_cons_zero, List.set_cons_succ]
        refine' wpAnyH_take (i := 11) (oi := ⟨some 54, _, _, _, _, _⟩) (v := _) rfl (by kernel_rfl) (by kernel_rfl) (by kernel_rfl) (fun _ _ _ h => h) (Or.inl ⟨by rfl, ?_⟩) hHeld ?_
        rotate_left
        · (intro w' hSw; (try dsimp only at hSw); go_simp; (try with_reducible rfl))
        try simp only [Act.put, List.setIfInBounds_toArray, List.set_cons_zero, List.set_cons_succ]
        refine' wpAnyH_take (i := 12) (oi := ⟨some 55, _, _, _, _, _⟩) (v := _) rfl (by kernel_rfl) (by kernel_rfl) (by kernel_rfl) (fun _ _ _ h => h) (Or.inl ⟨by rfl, ?_⟩) hHeld ?_
        rotate_left
        · (intro w' hSw; (try dsimp only at hSw); go_simp; (try with_reducible rfl))
        try simp only [Act.put, List.setIfInBounds_toArray, List.set_cons_zero, List.set_cons_succ]
        refine' wpAnyH_take (i := 13) (oi := ⟨some 56, _, _, _, _, _⟩) (v := _) rfl (by kernel_rfl) (by kernel_rfl) (by kernel_rfl) (fun _ _ _ h => h) (Or.inl ⟨by rfl, ?_⟩) hHeld ?_
        rotate_left
        · (intro w' hSw; (try dsimp only at hSw); go_simp; (try with_reducible rfl))
        try simp only [Act.put, List.setIfInBounds_toArray, List.set_cons_zero, List.set_cons_succ]
        refine' wpAnyH_take (i := 14) (oi := ⟨some 57, _, _, _, _, _⟩) (v := _) rfl (by kernel_rfl) (by kernel_rfl) (by kernel_rfl) (fun _ _ _ h => h) (Or.inl ⟨by rfl, ?_⟩) hHeld ?_
        rotate_left
        · (intro w' hSw; (try dsimp only at hSw); go_simp; (try with_reducible rfl))
        try simp only [Act.put, List.setIfInBounds_toArray, List.set_cons_zero, List.set_cons_succ]
        refine' wpAnyH_take (i := 15) (oi := ⟨some 58, _, _, _, _, _⟩) (v := _) rfl (by kernel_rfl) (by kernel_rfl) (by kernel_rfl) (fun _ _ _ h => h) (Or.inl ⟨by rfl, ?_⟩) hHeld ?_
        rotate_left
        · (intro w' hSw; (try dsimp only at hSw); go_simp; (try with_reducible rfl))
        try simp only [Act.put, List.setIfInBounds_toArray, List.set_cons_zero, List.set_cons_succ]
        refine' wpAnyH_take (i := 16) (oi := ⟨some 59, _, _, _, _, _⟩) (v := _) rfl (by kernel_rfl) (by kernel_rfl) (by kernel_rfl) (fun _ _ _ h => h) (Or.inl ⟨by rfl, ?_⟩) hHeld ?_
        rotate_left
        · (intro w' hSw; (try dsimp only at hSw); go_simp; (try with_reducible rfl))
        try simp only [Act.put, List.setIfInBounds_toArray, List.set_cons_zero, List.set_cons_succ]
        refine' wpAnyH_take (i := 17) (oi := ⟨some 60, _, _, _, _, _⟩) (v := _) rfl (by kernel_rfl) (by kernel_rfl) (by kernel_rfl) (fun _ _ _ h => h) (Or.inl ⟨by rfl, ?_⟩) hHeld ?_
        rotate_left
        · (intro w' hSw; (try dsimp only at hSw); go_simp; (try with_reducible rfl))
        try simp only [Act.put, List.setIfInBounds_toArray, List.set_cons_zero, List.set_cons_succ]
        refine' wpAnyH_take (i := 18) (oi := ⟨some 61, _, _, _, _, _⟩) (v := _) rfl (by kernel_rfl) (by kernel_rfl) (by kernel_rfl) (fun _ _ _ h => h) (Or.inl ⟨by rfl, ?_⟩) hHeld ?_
        rotate_left
        · (intro w' hSw; (try dsimp only at hSw); go_simp; (try with_reducible rfl))
        try simp only [Act.put, List.setIfInBounds_toArray, List.set_cons_zero, List.set_cons_succ]
        refine' wpAnyH_take (i := 19) (oi := ⟨some 62, _, _, _, _, _⟩) (v := _) rfl (by kernel_rfl) (by kernel_rfl) (by kernel_rfl) (fun _ _ _ h => h) (Or.inl ⟨by rfl, ?_⟩) hHeld ?_
        rotate_left
        · (intro w' hSw; (try dsimp only at hSw); go_simp; (try with_reducible rfl))
        try simp only [Act.put, List.setIfInBounds_toArray, List.set_cons_zero, List.set_cons_succ]
        refine' wpAnyH_take (i := 20) (oi := ⟨some 63, _, _, _, _, _⟩) (v := _) rfl (by kernel_rfl) (by kernel_rfl) (by kernel_rfl) (fun _ _ _ h => h) (Or.inl ⟨by rfl, ?_⟩) hHeld ?_
        rotate_left
        · (intro w' hSw; (try dsimp only at hSw); go_simp; (try with_reducible rfl))
        try simp only [Act.put, List.setIfInBounds_toArray, List.set_cons_zero, List.set_cons_succ]
        refine' wpAnyH_take (i := 21) (oi := ⟨some 64, _, _, _, _, _⟩) (v := _) rfl (by kernel_rfl) (by kernel_rfl) (by kernel_rfl) (fun _ _ _ h => h) (Or.inl ⟨by rfl, ?_⟩) hHeld ?_
        rotate_left
        · (intro w' hSw; (try dsimp only at hSw); go_simp; (try with_reducible rfl))
        try simp only [Act.put, List.setIfInBounds_toArray, List.set_cons_zero, List.set_cons_succ]
        refine' wpAnyH_take (i := 22) (oi := ⟨some 65, _, _, _, _, _⟩) (v := _) rfl (by kernel_rfl) (by kernel_rfl) (by kernel_rfl) (fun _ _ _ h => h) (Or.inl ⟨by rfl, ?_⟩) hHeld ?_
        rotate_left
        · (intro w' hSw; (try dsimp only at hSw); go_simp; (try with_reducible rfl))
        try simp only [Act.put, List.setIfInBounds_toArray, List.set_cons_zero, List.set_cons_succ]
        refine' wpAnyH_take (i := 23) (oi := ⟨some 66, _, _, _, _, _⟩) (v := undef) rfl (by kernel_rfl) (by kernel_rfl) (by kernel_rfl) (fun _ _ _ h => h) (Or.inr ⟨by rfl, rfl⟩) hHeld ?_
        try simp only [Act.put, List.setIfInBounds_toArray, List.set_cons_zero, List.set_cons_succ]
        refine' wpAnyH_take (i := 24) (oi := ⟨some 67, _, _, _, _, _⟩) (v := undef) rfl (by kernel_rfl) (by kernel_rfl) (by kernel_rfl) (fun _ _ _ h => h) (Or.inr ⟨by rfl, rfl⟩) hHeld ?_
        try simp only [Act.put, List.setIfInBounds_toArray, List.set_cons_zero, List.set_cons_succ]
        refine' wpAnyH_take (i := 25) (oi := ⟨some 68, _, _, _, _, _⟩) (v := undef) rfl (by kernel_rfl) (by kernel_rfl) (by kernel_rfl) (fun _ _ _ h => h) (Or.inr ⟨by rfl, rfl⟩) hHeld ?_
        try simp only [Act.put, List.setIfInBounds_toArray, List.set_cons_zero, List.set_cons_succ]
        refine' wpAnyH_take (i := 26) (oi := ⟨some 69, _, _, _, _, _⟩) (v := _) rfl (by kernel_rfl) (by kernel_rfl) (by kernel_rfl) (fun _ _ _ h => h) (Or.inl ⟨by rfl, ?_⟩) hHeld ?_
        rotate_left
        · (intro w' hSw; (try dsimp only at hSw); go_simp; (try with_reducible rfl))
        try simp only [Act.put, List.setIfInBounds_toArray, List.set_cons_zero, List.set_cons_succ]
        refine' wpAnyH_take (i := 27) (oi := ⟨some 70, _, _, _, _, _⟩) (v := _) rfl (by kernel_rfl) (by kernel_rfl) (by kernel_rfl) (fun _ _ _ h => h) (Or.inl ⟨by rfl, ?_⟩) hHeld ?_
        rotate_left
        · (intro w' hSw; (try dsimp only at hSw); go_simp; (try with_reducible rfl))
        try simp only [Act.put, List.setIfInBounds_toArray, List.set_cons_zero, List.set_cons_succ]
        refine' wpAnyH_take (i := 28) (oi := ⟨some 71, _, _, _, _, _⟩) (v := _) rfl (by kernel_rfl) (by kernel_rfl) (by kernel_rfl) (fun _ _ _ h => h) (Or.inl ⟨by rfl, ?_⟩) hHeld ?_
        rotate_left
        · (intro w' hSw; (try dsimp only at hSw); go_simp; (try with_reducible rfl))
        try simp only [Act.put, List.setIfInBounds_toArray, List.set_cons_zero, List.set_cons_succ]
        refine' wpAnyH_take (i := 29) (oi := ⟨some 72, _, _, _, _, _⟩) (v := _) rfl (by kernel_rfl) (by kernel_rfl) (by kernel_rfl) (fun _ _ _ h => h) (Or.inl ⟨by rfl, ?_⟩) hHeld ?_
        rotate_left
        · (intro w' hSw; (try dsimp only at hSw); go_simp; (try with_reducible rfl))
        try simp only [Act.put, List.setIfInBounds_toArray, List.set_cons_zero, List.set_cons_succ]
        refine' wpAnyH_take (i := 30) (oi := ⟨some 73, _, _, _, _, _⟩) (v := _) rfl (by kernel_rfl) (by kernel_rfl) (by kernel_rfl) (fun _ _ _ h => h) (Or.inl ⟨by rfl, ?_⟩) hHeld ?_
        rotate_left
        · (intro w' hSw; (try dsimp only at hSw); go_simp; (try with_reducible rfl))
        try simp only [Act.put, List.setIfInBounds_toArray, List.set_cons_zero, List.set_cons_succ]
        refine' wpAnyH_take (i := 32) (oi := ⟨some 75, _, _, _, _, _⟩) (v := _) rfl (by kernel_rfl) (by kernel_rfl) (by kernel_rfl) (fun _ _ _ h => h) (Or.inl ⟨by rfl, ?_⟩) hHeld ?_
        rotate_left
        · (intro w' hSw; (try dsimp only at hSw); go_simp; (try with_reducible rfl))
        try simp only [Act.put, List.setIfInBounds_toArray, List.set_cons_zero, List.set_cons_succ]
        refine' wpAnyH_take (i := 33) (oi := ⟨some 76, _, _, _, _, _⟩) (v := _) rfl (by kernel_rfl) (by kernel_rfl) (by kernel_rfl) (fun _ _ _ h => h) (Or.inl ⟨by rfl, ?_⟩) hHeld ?_
        rotate_left
        · (intro w' hSw; (try dsimp only at hSw); go_simp; (try with_reducible rfl))
        try simp only [Act.put, List.setIfInBounds_toArray, List.set_cons_zero, List.set_cons_succ]
        refine wpAnyH_ready (rs := [31]) (by kernel_rfl) (by simp) ?_
        refine AllReadyH.cons (i := 31) rfl (fun K hK => ?_) AllReadyH.nil
        go_simp
        (go_at_call 40; refine (HDG.out _ (k : Int) (HX3.out.trans hHeld.1)).mono ?_; rintro e w7 ⟨rfl, hx7⟩)
        try go_wp2_with fail
        refine hK.out _ _ ?_ (fun hHeld => ?_)
        · exact HKP.out _ _ hHeld hx7
        clear hK K
        try simp only [Act.put, List.setIfInBounds_toArray, List.set_cons_zero, List.set_cons_succ]
        refine wpAnyH_ready (rs := [34]) (by kernel_rfl) (by simp) ?_
        refine AllReadyH.cons (i := 34) rfl (fun K hK => ?_) AllReadyH.nil
        go_simp
        (go_at_call 41; refine (HDR.out _ (k : Int) (HX3.out.trans hHeld.1)).mono ?_; rintro e w8 ⟨rfl, hx8⟩)
        try go_wp2_with fail
        refine hK.out _ _ ?_ (fun hHeld => ?_)
        · exact HKP.out _ _ hHeld hx8
        clear hK K
        try simp only [Act.put, List.setIfInBounds_toArray, List.set_cons_zero, List.set_cons_succ]
        refine' wpAnyH_take (i := 35) (oi := ⟨some 78, _, _, _, _, _⟩) (v := _) rfl (by kernel_rfl) (by kernel_rfl) (by kernel_rfl) (fun _ _ _ h => h) (Or.inl ⟨by rfl, ?_⟩) hHeld ?_
        rotate_left
        · (intro w' hSw; (try dsimp only at hSw); go_simp; (try with_reducible rfl))
        try simp only [Act.put, List.setIfInBounds_toArray, List.set_cons_zero, List.set_cons_succ]
        refine' wpAnyH_take (i := 36) (oi := ⟨some 79, _, _, _, _, _⟩) (v := _) rfl (by kernel_rfl) (by kernel_rfl) (by kernel_rfl) (fun _ _ _ h => h) (Or.inl ⟨by rfl, ?_⟩) hHeld ?_
        rotate_left
        · (intro w' hSw; (try dsimp only at hSw); go_simp; (try with_reducible rfl))
        try simp only [Act.put, List.setIfInBounds_toArray, List.set_cons_zero, List.set_cons_succ]
        refine' wpAnyH_take (i := 37) (oi := ⟨some 80, _, _, _, _, _⟩) (v := _) rfl (by kernel_rfl) (by kernel_rfl) (by kernel_rfl) (fun _ _ _ h => h) (Or.inl ⟨by rfl, ?_⟩) hHeld ?_
        rotate_left
        · (intro w' hSw; (try dsimp only at hSw); go_simp; (try with_reducible rfl))
        try simp only [Act.put, List.setIfInBounds_toArray, List.set_cons_zero, List.set_cons_succ]
        refine' wpAnyH_take (i := 38) (oi := ⟨some 81, _, _, _, _, _⟩) (v := _) rfl (by kernel_rfl) (by kernel_rfl) (by kernel_rfl) (fun _ _ _ h => h) (Or.inl ⟨by rfl, ?_⟩) hHeld ?_
        rotate_left
        · (intro w' hSw; (try dsimp only at hSw); go_simp; (try with_reducible rfl))
        try simp only [Act.put, List.setIfInBounds_toArray, List.set_cons_zero, List.set_cons_succ]
        refine' wpAnyH_take (i := 39) (oi := ⟨some 82, _, _, _, _, _⟩) (v := _) rfl (by kernel_rfl) (by kernel_rfl) (by kernel_rfl) (fun _ _ _ h => h) (Or.inl ⟨by rfl, ?_⟩) hHeld ?_
        rotate_left
        · (intro w' hSw; (try dsimp only at hSw); go_simp; (try with_reducible rfl))
        try simp only [Act.put, List.setIfInBounds_toArray, List.set_cons_zero, List.set_cons_succ]
        refine' wpAnyH_take (i := 41) (oi := ⟨some 84, _, _, _, _, _⟩) (v := _) rfl (by kernel_rfl) (by kernel_rfl) (by kernel_rfl) (fun _ _ _ h => h) (Or.inl ⟨by rfl, ?_⟩) hHeld ?_
        rotate_left
        · (intro w' hSw; (try dsimp only at hSw); go_simp; (try with_reducible rfl))
        try simp only [Act.put, List.setIfInBounds_toArray, List.set_cons_zero, List.set_cons_succ]
        refine' wpAnyH_take (i := 42) (oi := ⟨some 85, _, _, _, _, _⟩) (v := _) rfl (by kernel_rfl) (by kernel_rfl) (by kernel_rfl) (fun _ _ _ h => h) (Or.inl ⟨by rfl, ?_⟩) hHeld ?_
        rotate_left
        · (intro w' hSw; (try dsimp only at hSw); go_simp; (try with_reducible rfl))
        try simp only [Act.put, List.setIfInBounds_toArray, List.set_cons_zero, List.set_cons_succ]
        refine wpAnyH_ready (rs := [40]) (by kernel_rfl) (by simp) ?_
        refine AllReadyH.cons (i := 40) rfl (fun K hK => ?_) AllReadyH.nil
        go_simp
        (go_at_call 43; refine (HNG.out _ (k : Int) (HX3.out.trans hHeld.1)).mono ?_; rintro e w9 ⟨v9, l9, rfl, ha9, hv9, hl9, hx9⟩; have HA9 := Lib.hid ha9; have HV9 := Lib.hid hv9; have HL9 := Lib.hid hl9; obtain ⟨m9, A9, c9, rfl⟩ := ha9.shape; clear ha9 hv9 hl9)
        try go_wp2_with fail
        refine hK.out _ _ ?_ (fun hHeld => ?_)
        · exact HKP.out _ _ hHeld hx9
        clear hK K
        try simp only [Act.put, List.setIfInBounds_toArray, List.set_cons_zero, List.set_cons_succ]
        refine wpAnyH_ready (rs := [43]) (by kernel_rfl) (by simp) ?_
        refine AllReadyH.cons (i := 43) rfl (fun K hK => ?_) AllReadyH.nil
        go_simp
        (go_at_call 44; refine (HNR.out _ (k : Int) (HX3.out.trans hHeld.1)).mono ?_; rintro e w10 ⟨v10, l10, rfl, ha10, hv10, hl10, hx10⟩; obtain rfl : l10 = l9 := hv10.uniq HV9.out; have HA10 := Lib.hid ha10; have HA9 := Lib.hid (HA9.out.ext hx10); obtain ⟨m10, A10, c10, rfl⟩ := ha10.shape; clear ha10 hv10 hl10)
        try go_wp2_with fail
        refine hK.out _ _ ?_ (fun hHeld => ?_)
        · exact HKP.out _ _ hHeld hx10
        clear hK K
        try simp only [Act.put, List.setIfInBounds_toArray, List.set_cons_zero, List.set_cons_succ]
        refine wpAnyH_ready (rs := [44]) (by kernel_rfl) (by simp) ?_
        refine AllReadyH.cons (i := 44) rfl (fun K hK => ?_) AllReadyH.nil
        go_simp
        (go_at_call 42; refine (HST.out _ _ _ _ HA9.out HA10.out HL9.out).mono ?_; rintro e w11 ⟨rfl, hx11⟩)
        try go_wp2_with fail
        refine hK.out _ _ ?_ (fun hHeld => ?_)
        · exact HKP.out _ _ hHeld hx11
        clear hK K
        try simp only [Act.put, List.setIfInBounds_toArray, List.set_cons_zero, List.set_cons_succ]
        refine' wpAnyH_take (i := 45) (oi := ⟨some 88, _, _, _, _, _⟩) (v := _) rfl (by kernel_rfl) (by kernel_rfl) (by kernel_rfl) (fun _ _ _ h => h) (Or.inl ⟨by rfl, ?_⟩) hHeld ?_
        rotate_left
        · (intro w' hSw; (try dsimp only at hSw); go_simp; (try with_reducible rfl))
        try simp only [Act.put, List.setIfInBounds_toArray, List.set_cons_zero, List.set_cons_succ]
        refine wpAnyH_ready (rs := [46]) (by kernel_rfl) (by simp) ?_
        refine AllReadyH.cons (i := 46) rfl (fun K hK => ?_) AllReadyH.nil
        go_simp
        try go_wp2_with fail
        refine hK.out _ _ ?_ (fun hHeld => ?_)
        · exact hHeld
        clear hK K
        try simp only [Act.put, List.setIfInBounds_toArray, List.set_cons_zero, List.set_cons_succ]
        refine wpAnyH_done (by kernel_rfl) ?_ _
        have HXE := Lib.hid (HX3.out.trans hHeld.1)
        clear hHeld HQ HB HX3 HKP hx6 hx7 hx8 hx9 hx10 hx11 HA9 HA10 HV9 HL9
        go_wp2_with fail
        go_roundw
        case rel => exact ⟨(k : Int) + 1, by omega, by omega, by go_num, HXE.out⟩
        case measure => simp [intOf] <;> omega
      · rw [HVO.out z (by omega)] at HNE
        have HHE := Lib.hid (fun W hx => (decide_eq_false hin) ▸ HHA.out W z hx)
        clear hin
        go_wp2_with fail
        refine HNE.out.mono ?_
        rintro e w2 ⟨rfl, hx2⟩
        have HX2 := Lib.hid (HX.out.trans hx2)
        clear hx2 k0
        have HB := Lib.hid (Blk.new w2 50 #[.int .i64 0, .int .i64 0, .int .i64 0, .int .i64 0, .string ⟨#[]⟩])
        have HX3 := Lib.hid (HX2.out.alloc (.cells #[.int .i64 0, .int .i64 0, .int .i64 0, .int .i64 0, .string ⟨#[]⟩] 50))
        obtain ⟨nb, hnb⟩ : ∃ nb, nb = w2.heap.size := ⟨_, rfl⟩
        obtain ⟨w3, hw3⟩ : ∃ w3, w3 = w2.alloc (.cells #[.int .i64 0, .int .i64 0, .int .i64 0, .int .i64 0, .string ⟨#[]⟩] 50) := ⟨_, rfl⟩
        rw [← hw3, ← hnb] at HB
        rw [← hw3] at HX3
        go_upto_region 7 with fail
        rw [← hw3, ← hnb]
        clear hw3 hnb HX2 HNE
        obtain ⟨q0, q1, q2, q3, q4⟩ := HB.out.five
        have HQ := Lib.hid (And.intro q0 (And.intro q1 (And.intro q2 (And.intro q3 q4))))
        clear q0 q1 q2 q3 q4
        have HKP : Hid (∀ w1 w2, (fun w' : World => Ext w3 w' ∧ w'.cell? ⟨gr, 0, none⟩ = some (.slice A ns.length c) ∧ w'.cell? ⟨nb, 0, none⟩ = some (.int .i64 0) ∧ w'.cell? ⟨nb, 1, none⟩ = some (.int .i64 0) ∧ w'.cell? ⟨nb, 2, none⟩ = some (.int .i64 0) ∧ w'.cell? ⟨nb, 3, none⟩ = some (.int .i64 0) ∧ w'.cell? ⟨nb, 4, none⟩ = some (.string ⟨#[]⟩)) w1 → Ext w1 w2 → (fun w' : World => Ext w3 w' ∧ w'.cell? ⟨gr, 0, none⟩ = some (.slice A ns.length c) ∧ w'.cell? ⟨nb, 0, none⟩ = some (.int .i64 0) ∧ w'.cell? ⟨nb, 1, none⟩ = some (.int .i64 0) ∧ w'.cell? ⟨nb, 2, none⟩ = some (.int .i64 0) ∧ w'.cell? ⟨nb, 3, none⟩ = some (.int .i64 0) ∧ w'.cell? ⟨nb, 4, none⟩ = some (.string ⟨#[]⟩)) w2) := Lib.hid (fun w1 w2 h hx => by
          obtain ⟨p0, p1, p2, p3, p4, p5, p6⟩ := h
          exact ⟨p0.trans hx, hx.keep p1, hx.keep p2, hx.keep p3, hx.keep p4, hx.keep p5, hx.keep p6⟩)
        refine wp_region_held_drew (S := fun w' => Ext w3 w' ∧ w'.cell? ⟨gr, 0, none⟩ = some (.slice A ns.length c) ∧ w'.cell? ⟨nb, 0, none⟩ = some (.int .i64 0) ∧ w'.cell? ⟨nb, 1, none⟩ = some (.int .i64 0) ∧ w'.cell? ⟨nb, 2, none⟩ = some (.int .i64 0) ∧ w'.cell? ⟨nb, 3, none⟩ = some (.int .i64 0) ∧ w'.cell? ⟨nb, 4, none⟩ = some (.string ⟨#[]⟩)) (by kernel_rfl) (by exact ⟨(Ext.refl w3).drew, HX3.out.keep HJ.out, HQ.out.1, HQ.out.2.1, HQ.out.2.2.1, HQ.out.2.2.2.1, HQ.out.2.2.2.2⟩) (fun hHeld => ?_)
        refine' wpAnyH_take (i := 0) (oi := ⟨some 43, _, _, _, _, _⟩) (v := _) rfl (by kernel_rfl) (by kernel_rfl) (by kernel_rfl) (fun _ _ _ h => h) (Or.inl ⟨by rfl, ?_⟩) hHeld ?_
        rotate_left
        · (intro w' hSw; (try dsimp only at hSw); go_simp; (try with_reducible rfl))
        try simp only [Act.put, List.setIfInBounds_toArray, List.set_cons_zero, List.set_cons_succ]
        refine' wpAnyH_take (i := 1) (oi := ⟨some 44, _, _, _, _, _⟩) (v := _) rfl (by kernel_rfl) (by kernel_rfl) (by kernel_rfl) (fun _ _ _ h => h) (Or.inl ⟨by rfl, ?_⟩) hHeld ?_
        rotate_left
        · (intro w' hSw; (try dsimp only at hSw); go_simp; (try with_reducible rfl))
        try simp only [Act.put, List.setIfInBounds_toArray, List.set_cons_zero, List.set_cons_succ]
        refine' wpAnyH_take (i := 2) (oi := ⟨some 45, _, _, _, _, _⟩) (v := _) rfl (by kernel_rfl) (by kernel_rfl) (by kernel_rfl) (fun _ _ _ h => h) (Or.inl ⟨by rfl, ?_⟩) hHeld ?_
        rotate_left
        · (intro w' hSw; (try dsimp only at hSw); go_simp; (try with_reducible rfl))
        try simp only [Act.put, List.setIfInBounds_toArray, List.set_cons_zero, List.set_cons_succ]
        refine wpAnyH_ready (rs := [3]) (by kernel_rfl) (by simp) ?_
        refine AllReadyH.cons (i := 3) rfl (fun K hK => ?_) AllReadyH.nil
        go_simp
        (go_at_call 39; refine (HHE.out _ (HX3.out.trans hHeld.1)).mono ?_; rintro e w6 ⟨rfl, hx6⟩)
        try go_wp2_with fail
        refine hK.out _ _ ?_ (fun hHeld => ?_)
        · exact HKP.out _ _ hHeld hx6
        clear hK K
        try simp only [Act.put, List.setIfInBounds_toArray, List.set_cons_zero, List.set_cons_succ]
        refine' wpAnyH_take (i := 4) (oi := ⟨some 47, _, _, _, _, _⟩) (v := _) rfl (by kernel_rfl) (by kernel_rfl) (by kernel_rfl) (fun _ _ _ h => h) (Or.inl ⟨by rfl, ?_⟩) hHeld ?_
        rotate_left
        · (intro w' hSw; (try dsimp only at hSw); go_simp; (try with_reducible rfl))
        try simp only [Act.put, List.setIfInBounds_toArray, List.set_cons_zero, List.set_cons_succ]
        refine' wpAnyH_take (i := 5) (oi := ⟨some 48, _, _, _, _, _⟩) (v := _) rfl (by kernel_rfl) (by kernel_rfl) (by kernel_rfl) (fun _ _ _ h => h) (Or.inl ⟨by rfl, ?_⟩) hHeld ?_
        rotate_left
        · (intro w' hSw; (try dsimp only at hSw); go_simp; (try with_reducible rfl))
        try simp only [Act.put, List.setIfInBounds_toArray, List.set_cons_zero, List.set_cons_succ]
        refine' wpAnyH_take (i := 6) (oi := ⟨some 49, _, _, _, _, _⟩) (v := _) rfl (by kernel_rfl) (by kernel_rfl) (by kernel_rfl) (fun _ _ _ h => h) (Or.inl ⟨by rfl, ?_⟩) hHeld ?_
        rotate_left
        · (intro w' hSw; (try dsimp only at hSw); go_simp; (try with_reducible rfl))
        try simp only [Act.put, List.setIfInBounds_toArray, List.set_cons_zero, List.set_cons_succ]
        refine' wpAnyH_take (i := 7) (oi := ⟨some 50, _, _, _, _, _⟩) (v := _) rfl (by kernel_rfl) (by kernel_rfl) (by kernel_rfl) (fun _ _ _ h => h) (Or.inl ⟨by rfl, ?_⟩) hHeld ?_
        rotate_left
        · (intro w' hSw; (try dsimp only at hSw); go_simp; (try with_reducible rfl))
        try simp only [Act.put, List.setIfInBounds_toArray, List.set_cons_zero, List.set_cons_succ]
        refine' wpAnyH_take (i := 8) (oi := ⟨some 51, _, _, _, _, _⟩) (v := undef) rfl (by kernel_rfl) (by kernel_rfl) (by kernel_rfl) (fun _ _ _ h => h) (Or.inr ⟨by rfl, rfl⟩) hHeld ?_
        try simp only [Act.put, List.setIfInBounds_toArray, List.set_cons_zero, List.set_cons_succ]
        refine' wpAnyH_take (i := 9) (oi := ⟨some 52, _, _, _, _, _⟩) (v := undef) rfl (by kernel_rfl) (by kernel_rfl) (by kernel_rfl) (fun _ _ _ h => h) (Or.inr ⟨by rfl, rfl⟩) hHeld ?_
        try simp only [Act.put, List.setIfInBounds_toArray, List.set_cons_zero, List.set_cons_succ]
        refine' wpAnyH_take (i := 10) (oi := ⟨some 53, _, _, _, _, _⟩) (v := undef) rfl (by kernel_rfl) (by kernel_rfl) (by kernel_rfl) (fun _ _ _ h => h) (Or.inr ⟨by rfl, rfl⟩) hHeld ?_
        try simp only [Act.put, List.setIfInBounds_toArray, List.set_cons_zero, List.set_cons_succ]
        refine' wpAnyH_take (i := 11) (oi := ⟨some 54, _, _, _, _, _⟩) (v := undef) rfl (by kernel_rfl) (by kernel_rfl) (by kernel_rfl) (fun _ _ _ h => h) (Or.inr ⟨by rfl, rfl⟩) hHeld ?_
        try simp only [Act.put, List.setIfInBounds_toArray, List.set_cons_zero, List.set_cons_succ]
        refine' wpAnyH_take (i := 12) (oi := ⟨some 55, _, _, _, _, _⟩) (v := undef) rfl (by kernel_rfl) (by kernel_rfl) (by kernel_rfl) (fun _ _ _ h => h) (Or.inr ⟨by rfl, rfl⟩) hHeld ?_
        try simp only [Act.put, List.setIfInBounds_toArray, List.set_cons_zero, List.set_cons_succ]
        refine' wpAnyH_take (i := 13) (oi := ⟨some 56, _, _, _, _, _⟩) (v := undef) rfl (by kernel_rfl) (by kernel_rfl) (by kernel_rfl) (fun _ _ _ h => h) (Or.inr ⟨by rfl, rfl⟩) hHeld ?_
        try simp only [Act.put, List.setIfInBounds_toArray, List.set_cons_zero, List.set_cons_succ]
        refine' wpAnyH_take (i := 14) (oi := ⟨some 57, _, _, _, _, _⟩) (v := undef) rfl (by kernel_rfl) (by kernel_rfl) (by kernel_rfl) (fun _ _ _ h => h) (Or.inr ⟨by rfl, rfl⟩) hHeld ?_
        try simp only [Act.put, List.setIfInBounds_toArray, List.set_cons_zero, List.set_cons_succ]
        refine' wpAnyH_take (i := 15) (oi := ⟨some 58, _, _, _, _, _⟩) (v := undef) rfl (by kernel_rfl) (by kernel_rfl) (by kernel_rfl) (fun _ _ _ h => h) (Or.inr ⟨by rfl, rfl⟩) hHeld ?_
        try simp only [Act.put, List.setIfInBounds_toArray, List.set_cons_zero, List.set_cons_succ]
        refine' wpAnyH_take (i := 16) (oi := ⟨some 59, _, _, _, _, _⟩) (v := undef) rfl (by kernel_rfl) (by kernel_rfl) (by kernel_rfl) (fun _ _ _ h => h) (Or.inr ⟨by rfl, rfl⟩) hHeld ?_
        try simp only [Act.put, List.setIfInBounds_toArray, List.set_cons_zero, List.set_cons_succ]
        refine' wpAnyH_take (i := 17) (oi := ⟨some 60, _, _, _, _, _⟩) (v := _) rfl (by kernel_rfl) (by kernel_rfl) (by kernel_rfl) (fun _ _ _ h => h) (Or.inl ⟨by rfl, ?_⟩) hHeld ?_
        rotate_left
        · (intro w' hSw; (try dsimp only at hSw); go_simp; (try with_reducible rfl))
        try simp only [Act.put, List.setIfInBounds_toArray, List.set_cons_zero, List.set_cons_succ]
        refine' wpAnyH_take (i := 18) (oi := ⟨some 61, _, _, _, _, _⟩) (v := _) rfl (by kernel_rfl) (by kernel_rfl) (by kernel_rfl) (fun _ _ _ h => h) (Or.inl ⟨by rfl, ?_⟩) hHeld ?_
        rotate_left
        · (intro w' hSw; (try dsimp only at hSw); go_simp; (try with_reducible rfl))
        try simp only [Act.put, List.setIfInBounds_toArray, List.set_cons_zero, List.set_cons_succ]
        refine' wpAnyH_take (i := 19) (oi := ⟨some 62, _, _, _, _, _⟩) (v := _) rfl (by kernel_rfl) (by kernel_rfl) (by kernel_rfl) (fun _ _ _ h => h) (Or.inl ⟨by rfl, ?_⟩) hHeld ?_
        rotate_left
        · (intro w' hSw; (try dsimp only at hSw); go_simp; (try with_reducible rfl))
        try simp only [Act.put, List.setIfInBounds_toArray, List.set_cons_zero, List.set_cons_succ]
        refine' wpAnyH_take (i := 20) (oi := ⟨some 63, _, _, _, _, _⟩) (v := _) rfl (by kernel_rfl) (by kernel_rfl) (by kernel_rfl) (fun _ _ _ h => h) (Or.inl ⟨by rfl, ?_⟩) hHeld ?_
        rotate_left
        · (intro w' hSw; (try dsimp only at hSw); go_simp; (try with_reducible rfl))
        try simp only [Act.put, List.setIfInBounds_toArray, List.set_cons_zero, List.set_cons_succ]
        refine' wpAnyH_take (i := 21) (oi := ⟨some 64, _, _, _, _, _⟩) (v := _) rfl (by kernel_rfl) (by kernel_rfl) (by kernel_rfl) (fun _ _ _ h => h) (Or.inl ⟨by rfl, ?_⟩) hHeld ?_
        rotate_left
        · (intro w' hSw; (try dsimp only at hSw); go_simp; (try with_reducible rfl))
        try simp only [Act.put, List.setIfInBounds_toArray, List.set_cons_zero, List.set_cons_succ]
        refine' wpAnyH_take (i := 22) (oi := ⟨some 65, _, _, _, _, _⟩) (v := _) rfl (by kernel_rfl) (by kernel_rfl) (by kernel_rfl) (fun _ _ _ h => h) (Or.inl ⟨by rfl, ?_⟩) hHeld ?_
        rotate_left
        · (intro w' hSw; (try dsimp only at hSw); go_simp; (try with_reducible rfl))
        try simp only [Act.put, List.setIfInBounds_toArray, List.set_cons_zero, List.set_cons_succ]
        refine' wpAnyH_take (i := 23) (oi := ⟨some 66, _, _, _, _, _⟩) (v := _) rfl (by kernel_rfl) (by kernel_rfl) (by kernel_rfl) (fun _ _ _ h => h) (Or.inl ⟨by rfl, ?_⟩) hHeld ?_
        rotate_left
        · (intro w' hSw; (try dsimp only at hSw); go_simp; (try with_reducible rfl))
        try simp only [Act.put, List.setIfInBounds_toArray, List.set_cons_zero, List.set_cons_succ]
        refine' wpAnyH_take (i := 24) (oi := ⟨some 67, _, _, _, _, _⟩) (v := _) rfl (by kernel_rfl) (by kernel_rfl) (by kernel_rfl) (fun _ _ _ h => h) (Or.inl ⟨by rfl, ?_⟩) hHeld ?_
        rotate_left
        · (intro w' hSw; (try dsimp only at hSw); go_simp; (try with_reducible rfl))
        try simp only [Act.put, List.setIfInBounds_toArray, List.set_cons_zero, List.set_cons_succ]
        refine' wpAnyH_take (i := 25) (oi := ⟨some 68, _, _, _, _, _⟩) (v := _) rfl (by kernel_rfl) (by kernel_rfl) (by kernel_rfl) (fun _ _ _ h => h) (Or.inl ⟨by rfl, ?_⟩) hHeld ?_
        rotate_left
        · (intro w' hSw; (try dsimp only at hSw); go_simp; (try with_reducible rfl))
        try simp only [Act.put, List.setIfInBounds_toArray, List.set_cons_zero, List.set_cons_succ]
        refine' wpAnyH_take (i := 26) (oi := ⟨some 69, _, _, _, _, _⟩) (v := _) rfl (by kernel_rfl) (by kernel_rfl) (by kernel_rfl) (fun _ _ _ h => h) (Or.inl ⟨by rfl, ?_⟩) hHeld ?_
        rotate_left
        · (intro w' hSw; (try dsimp only at hSw); go_simp; (try with_reducible rfl))
        try simp only [Act.put, List.setIfInBounds_toArray, List.set_cons_zero, List.set_cons_succ]
        refine' wpAnyH_take (i := 27) (oi := ⟨some 70, _, _, _, _, _⟩) (v := _) rfl (by kernel_rfl) (by kernel_rfl) (by kernel_rfl) (fun _ _ _ h => h) (Or.inl ⟨by rfl, ?_⟩) hHeld ?_
        rotate_left
        · (intro w' hSw; (try dsimp only at hSw); go_simp; (try with_reducible rfl))
        try simp only [Act.put, List.setIfInBounds_toArray, List.set_cons_zero, List.set_cons_succ]
        refine' wpAnyH_take (i := 28) (oi := ⟨some 71, _, _, _, _, _⟩) (v := _) rfl (by kernel_rfl) (by kernel_rfl) (by kernel_rfl) (fun _ _ _ h => h) (Or.inl ⟨by rfl, ?_⟩) hHeld ?_
        rotate_left
        · (intro w' hSw; (try dsimp only at hSw); go_simp; (try with_reducible rfl))
        try simp only [Act.put, List.setIfInBounds_toArray, List.set_cons_zero, List.set_cons_succ]
        refine' wpAnyH_take (i := 29) (oi := ⟨some 72, _, _, _, _, _⟩) (v := _) rfl (by kernel_rfl) (by kernel_rfl) (by kernel_rfl) (fun _ _ _ h => h) (Or.inl ⟨by rfl, ?_⟩) hHeld ?_
        rotate_left
        · (intro w' hSw; (try dsimp only at hSw); go_simp; (try with_reducible rfl))
        try simp only [Act.put, List.setIfInBounds_toArray, List.set_cons_zero, List.set_cons_succ]
        refine' wpAnyH_take (i := 30) (oi := ⟨some 73, _, _, _, _, _⟩) (v := _) rfl (by kernel_rfl) (by kernel_rfl) (by kernel_rfl) (fun _ _ _ h => h) (Or.inl ⟨by rfl, ?_⟩) hHeld ?_
        rotate_left
        · (intro w' hSw; (try dsimp only at hSw); go_simp; (try with_reducible rfl))
        try simp only [Act.put, List.setIfInBounds_toArray, List.set_cons_zero, List.set_cons_succ]
        refine' wpAnyH_take (i := 32) (oi := ⟨some 75, _, _, _, _, _⟩) (v := _) rfl (by kernel_rfl) (by kernel_rfl) (by kernel_rfl) (fun _ _ _ h => h) (Or.inl ⟨by rfl, ?_⟩) hHeld ?_
        rotate_left
        · (intro w' hSw; (try dsimp only at hSw); go_simp; (try with_reducible rfl))
        try simp only [Act.put, List.setIfInBounds_toArray, List.set_cons_zero, List.set_cons_succ]
        refine' wpAnyH_take (i := 33) (oi := ⟨some 76, _, _, _, _, _⟩) (v := _) rfl (by kernel_rfl) (by kernel_rfl) (by kernel_rfl) (fun _ _ _ h => h) (Or.inl ⟨by rfl, ?_⟩) hHeld ?_
        rotate_left
        · (intro w' hSw; (try dsimp only at hSw); go_simp; (try with_reducible rfl))
        try simp only [Act.put, List.setIfInBounds_toArray, List.set_cons_zero, List.set_cons_succ]
        refine wpAnyH_ready (rs := [31]) (by kernel_rfl) (by simp) ?_
        refine AllReadyH.cons (i := 31) rfl (fun K hK => ?_) AllReadyH.nil
        go_simp
        (go_at_call 40; refine (HDG.out _ z (HX3.out.trans hHeld.1)).mono ?_; rintro e w7 ⟨rfl, hx7⟩)
        try go_wp2_with fail
        refine hK.out _ _ ?_ (fun hHeld => ?_)
        · exact HKP.out _ _ hHeld hx7
        clear hK K
        try simp only [Act.put, List.setIfInBounds_toArray, List.set_cons_zero, List.set_cons_succ]
        refine wpAnyH_ready (rs := [34]) (by kernel_rfl) (by simp) ?_
        refine AllReadyH.cons (i := 34) rfl (fun K hK => ?_) AllReadyH.nil
        go_simp
        (go_at_call 41; refine (HDR.out _ z (HX3.out.trans hHeld.1)).mono ?_; rintro e w8 ⟨rfl, hx8⟩)
        try go_wp2_with fail
        refine hK.out _ _ ?_ (fun hHeld => ?_)
        · exact HKP.out _ _ hHeld hx8
        clear hK K
        try simp only [Act.put, List.setIfInBounds_toArray, List.set_cons_zero, List.set_cons_succ]
        refine' wpAnyH_take (i := 35) (oi := ⟨some 78, _, _, _, _, _⟩) (v := _) rfl (by kernel_rfl) (by kernel_rfl) (by kernel_rfl) (fun _ _ _ h => h) (Or.inl ⟨by rfl, ?_⟩) hHeld ?_
        rotate_left
        · (intro w' hSw; (try dsimp only at hSw); go_simp; (try with_reducible rfl))
        try simp only [Act.put, List.setIfInBounds_toArray, List.set_cons_zero, List.set_cons_succ]
        refine' wpAnyH_take (i := 36) (oi := ⟨some 79, _, _, _, _, _⟩) (v := _) rfl (by kernel_rfl) (by kernel_rfl) (by kernel_rfl) (fun _ _ _ h => h) (Or.inl ⟨by rfl, ?_⟩) hHeld ?_
        rotate_left
        · (intro w' hSw; (try dsimp only at hSw); go_simp; (try with_reducible rfl))
        try simp only [Act.put, List.setIfInBounds_toArray, List.set_cons_zero, List.set_cons_succ]
        refine' wpAnyH_take (i := 37) (oi := ⟨some 80, _, _, _, _, _⟩) (v := _) rfl (by kernel_rfl) (by kernel_rfl) (by kernel_rfl) (fun _ _ _ h => h) (Or.inl ⟨by rfl, ?_⟩) hHeld ?_
        rotate_left
        · (intro w' hSw; (try dsimp only at hSw); go_simp; (try with_reducible rfl))
        try simp only [Act.put, List.setIfInBounds_toArray, List.set_cons_zero, List.set_cons_succ]
        refine' wpAnyH_take (i := 38) (oi := ⟨some 81, _, _, _, _, _⟩) (v := _) rfl (by kernel_rfl) (by kernel_rfl) (by kernel_rfl) (fun _ _ _ h => h) (Or.inl ⟨by rfl, ?_⟩) hHeld ?_
        rotate_left
        · (intro w' hSw; (try dsimp only at hSw); go_simp; (try with_reducible rfl))
        try simp only [Act.put, List.setIfInBounds_toArray, List.set_cons_zero, List.set_cons_succ]
        refine' wpAnyH_take (i := 39) (oi := ⟨some 82, _, _, _, _, _⟩) (v := _) rfl (by kernel_rfl) (by kernel_rfl) (by kernel_rfl) (fun _ _ _ h => h) (Or.inl ⟨by rfl, ?_⟩) hHeld ?_
        rotate_left
        · (intro w' hSw; (try dsimp only at hSw); go_simp; (try with_reducible rfl))
        try simp only [Act.put, List.setIfInBounds_toArray, List.set_cons_zero, List.set_cons_succ]
        refine' wpAnyH_take (i := 41) (oi := ⟨some 84, _, _, _, _, _⟩) (v := _) rfl (by kernel_rfl) (by kernel_rfl) (by kernel_rfl) (fun _ _ _ h => h) (Or.inl ⟨by rfl, ?_⟩) hHeld ?_
        rotate_left
        · (intro w' hSw; (try dsimp only at hSw); go_simp; (try with_reducible rfl))
        try simp only [Act.put, List.setIfInBounds_toArray, List.set_cons_zero, List.set_cons_succ]
        refine' wpAnyH_take (i := 42) (oi := ⟨some 85, _, _, _, _, _⟩) (v := _) rfl (by kernel_rfl) (by kernel_rfl) (by kernel_rfl) (fun _ _ _ h => h) (Or.inl ⟨by rfl, ?_⟩) hHeld ?_
        rotate_left
        · (intro w' hSw; (try dsimp only at hSw); go_simp; (try with_reducible rfl))
        try simp only [Act.put, List.setIfInBounds_toArray, List.set_cons_zero, List.set_cons_succ]
        refine wpAnyH_ready (rs := [40]) (by kernel_rfl) (by simp) ?_
        refine AllReadyH.cons (i := 40) rfl (fun K hK => ?_) AllReadyH.nil
        go_simp
        (go_at_call 43; refine (HNG.out _ z (HX3.out.trans hHeld.1)).mono ?_; rintro e w9 ⟨v9, l9, rfl, ha9, hv9, hl9, hx9⟩; have HA9 := Lib.hid ha9; have HV9 := Lib.hid hv9; have HL9 := Lib.hid hl9; obtain ⟨m9, A9, c9, rfl⟩ := ha9.shape; clear ha9 hv9 hl9)
        try go_wp2_with fail
        refine hK.out _ _ ?_ (fun hHeld => ?_)
        · exact HKP.out _ _ hHeld hx9
        clear hK K
        try simp only [Act.put, List.setIfInBounds_toArray, List.set_cons_zero, List.set_cons_succ]
        refine wpAnyH_ready (rs := [43]) (by kernel_rfl) (by simp) ?_
        refine AllReadyH.cons (i := 43) rfl (fun K hK => ?_) AllReadyH.nil
        go_simp
        (go_at_call 44; refine (HNR.out _ z (HX3.out.trans hHeld.1)).mono ?_; rintro e w10 ⟨v10, l10, rfl, ha10, hv10, hl10, hx10⟩; obtain rfl : l10 = l9 := hv10.uniq HV9.out; have HA10 := Lib.hid ha10; have HA9 := Lib.hid (HA9.out.ext hx10); obtain ⟨m10, A10, c10, rfl⟩ := ha10.shape; clear ha10 hv10 hl10)
        try go_wp2_with fail
        refine hK.out _ _ ?_ (fun hHeld => ?_)
        · exact HKP.out _ _ hHeld hx10
        clear hK K
        try simp only [Act.put, List.setIfInBounds_toArray, List.set_cons_zero, List.set_cons_succ]
        refine wpAnyH_ready (rs := [44]) (by kernel_rfl) (by simp) ?_
        refine AllReadyH.cons (i := 44) rfl (fun K hK => ?_) AllReadyH.nil
        go_simp
        (go_at_call 42; refine (HST.out _ _ _ _ HA9.out HA10.out HL9.out).mono ?_; rintro e w11 ⟨rfl, hx11⟩)
        try go_wp2_with fail
        refine hK.out _ _ ?_ (fun hHeld => ?_)
        · exact HKP.out _ _ hHeld hx11
        clear hK K
        try simp only [Act.put, List.setIfInBounds_toArray, List.set_cons_zero, List.set_cons_succ]
        refine' wpAnyH_take (i := 45) (oi := ⟨some 88, _, _, _, _, _⟩) (v := _) rfl (by kernel_rfl) (by kernel_rfl) (by kernel_rfl) (fun _ _ _ h => h) (Or.inl ⟨by rfl, ?_⟩) hHeld ?_
        rotate_left
        · (intro w' hSw; (try dsimp only at hSw); go_simp; (try with_reducible rfl))
        try simp only [Act.put, List.setIfInBounds_toArray, List.set_cons_zero, List.set_cons_succ]
        refine wpAnyH_ready (rs := [46]) (by kernel_rfl) (by simp) ?_
        refine AllReadyH.cons (i := 46) rfl (fun K hK => ?_) AllReadyH.nil
        go_simp
        try go_wp2_with fail
        refine hK.out _ _ ?_ (fun hHeld => ?_)
        · exact hHeld
        clear hK K
        try simp only [Act.put, List.setIfInBounds_toArray, List.set_cons_zero, List.set_cons_succ]
        refine wpAnyH_done (by kernel_rfl) ?_ _
        have HXE := Lib.hid (HX3.out.trans hHeld.1)
        clear hHeld HQ HB HX3 HKP hx6 hx7 hx8 hx9 hx10 hx11 HA9 HA10 HV9 HL9
        go_wp2_with fail
        go_roundw
        case rel => exact ⟨z + 1, by omega, by omega, by go_num, HXE.out⟩
        case measure => simp [intOf] <;> omega
    · have hdz : decide (z ≤ (ns.length : Int)) = false := decide_eq_false hzn
      go_wp2_with fail
      go_ret
      exact ⟨rfl, HX.out⟩
end Big
end Go.Proofs.YtaccjdbbkmhanaaGreatDoor
/- Copy, both sides. Printed by a program. -/
namespace Go.Proofs.YtaccjdbbkmhanaaGreatDoor
namespace Big
open Go.RowKit
theorem mclone_any (w : World) (b : Nat) (ns : List Nd) (h : NMap w b ns) :
    Calls Tryz.prog 35 #[.map (some b)] w fun e w' => ∃ bn, e = .returned (.map (some bn)) ∧ NMap w' bn ns ∧ w.heap.size ≤ bn ∧ Ext w w' := by
  obtain ⟨es, clock, hb, he⟩ := h
  refine (AnyW.maps_Clone Tryz.cloneMapIt b es clock w hb).mono ?_
  rintro e w' ⟨rfl, rfl⟩
  exact ⟨_, rfl, ⟨es, clock, (MapKept.heap_alloc w _).1, he⟩, Nat.le_refl _, (Ext.refl w).alloc _⟩
set_option maxHeartbeats 4000000 in
set_option maxRecDepth 100000 in
theorem gcopy_any (B g b : Nat) (w : World) (ns : List Nd) (nv : Value) (h : GrP B g b w ns nv) :
    Calls Tryz.prog 16 #[.pointer (some ⟨g, 0, none⟩)] w fun e w' => ∃ g2 b2 nv2, e = .returned (.pointer (some ⟨g2, 0, none⟩)) ∧ GrP w.heap.size g2 b2 w' ns nv2 ∧ Ext w w' := by
  have HLC := Lib.hid (fun W (hx : Ext w W) => lclone_any B W nv ns (h.row.ext hx) (by have := h.few; omega))
  have HMC := Lib.hid (fun W (hx : Ext w W) => mclone_any W b ns (h.map.kept (hx.block b h.map.lt)))
  have HOK := Lib.hid (And.intro h.ok (And.intro h.few (Nat.lt_of_lt_of_le h.low (Nat.le_of_lt (Nat.lt_of_le_of_lt h.lo h.lt)))))
  obtain ⟨k0, k1, f0, f1, hgz⟩ := h.blk.twoG
  have hkk := And.intro k0 k1
  have HKK := Lib.hid hkk
  obtain ⟨A, c, rfl⟩ := h.row.shape
  clear h hkk
  go_enter Tryz.func16, Tryz.ntmps16
  go_upto_region 1 with fail
  clear k0 k1 f0 f1
  refine wp_region_held_drew (S := fun w' => Ext w w' ∧ w'.cell? ⟨g, 0, none⟩ = some (.slice A ns.length c) ∧ w'.cell? ⟨g, 1, none⟩ = some (.map (some b))) (by kernel_rfl) (by exact kept2_drew HKK.out) (fun hHeld => ?_)
  refine' wpAnyH_take (i := 0) (v := _) rfl (by kernel_rfl) (by kernel_rfl) (by kernel_rfl) (fun _ _ _ h => h) (Or.inl ⟨by rfl, ?_⟩) hHeld ?_
  rotate_left
  · (intro w' hSw; (try dsimp only at hSw); go_simp; (try with_reducible rfl))
  try simp only [Act.put, List.setIfInBounds_toArray, List.set_cons_zero, List.set_cons_succ]
  refine' wpAnyH_take (i := 1) (v := _) rfl (by kernel_rfl) (by kernel_rfl) (by kernel_rfl) (fun _ _ _ h => h) (Or.inl ⟨by rfl, ?_⟩) hHeld ?_
  rotate_left
  · (intro w' hSw; (try dsimp only at hSw); go_simp; (try with_reducible rfl))
  try simp only [Act.put, List.setIfInBounds_toArray, List.set_cons_zero, List.set_cons_succ]
  refine' wpAnyH_take (i := 2) (v := _) rfl (by kernel_rfl) (by kernel_rfl) (by kernel_rfl) (fun _ _ _ h => h) (Or.inl ⟨by rfl, ?_⟩) hHeld ?_
  rotate_left
  · (intro w' hSw; (try dsimp only at hSw); go_simp; (try with_reducible rfl))
  try simp only [Act.put, List.setIfInBounds_toArray, List.set_cons_zero, List.set_cons_succ]
  refine' wpAnyH_take (i := 3) (v := _) rfl (by kernel_rfl) (by kernel_rfl) (by kernel_rfl) (fun _ _ _ h => h) (Or.inl ⟨by rfl, ?_⟩) hHeld ?_
  rotate_left
  · (intro w' hSw; (try dsimp only at hSw); go_simp; (try with_reducible rfl))
  try simp only [Act.put, List.setIfInBounds_toArray, List.set_cons_zero, List.set_cons_succ]
  refine' wpAnyH_take (i := 5) (v := _) rfl (by kernel_rfl) (by kernel_rfl) (by kernel_rfl) (fun _ _ _ h => h) (Or.inl ⟨by rfl, ?_⟩) hHeld ?_
  rotate_left
  · (intro w' hSw; (try dsimp only at hSw); go_simp; (try with_reducible rfl))
  try simp only [Act.put, List.setIfInBounds_toArray, List.set_cons_zero, List.set_cons_succ]
  refine' wpAnyH_take (i := 6) (v := _) rfl (by kernel_rfl) (by kernel_rfl) (by kernel_rfl) (fun _ _ _ h => h) (Or.inl ⟨by rfl, ?_⟩) hHeld ?_
  rotate_left
  · (intro w' hSw; (try dsimp only at hSw); go_simp; (try with_reducible rfl))
  try simp only [Act.put, List.setIfInBounds_toArray, List.set_cons_zero, List.set_cons_succ]
  refine' wpAnyH_take (i := 7) (v := _) rfl (by kernel_rfl) (by kernel_rfl) (by kernel_rfl) (fun _ _ _ h => h) (Or.inl ⟨by rfl, ?_⟩) hHeld ?_
  rotate_left
  · (intro w' hSw; (try dsimp only at hSw); go_simp; (try with_reducible rfl))
  try simp only [Act.put, List.setIfInBounds_toArray, List.set_cons_zero, List.set_cons_succ]
  refine' wpAnyH_take (i := 8) (v := _) rfl (by kernel_rfl) (by kernel_rfl) (by kernel_rfl) (fun _ _ _ h => h) (Or.inl ⟨by rfl, ?_⟩) hHeld ?_
  rotate_left
  · (intro w' hSw; (try dsimp only at hSw); go_simp; (try with_reducible rfl))
  try simp only [Act.put, List.setIfInBounds_toArray, List.set_cons_zero, List.set_cons_succ]
  refine wpAnyH_ready (rs := [4]) (by kernel_rfl) (by simp) ?_
  refine AllReadyH.cons (i := 4) rfl (fun K hK => ?_) AllReadyH.nil
  go_simp
  (go_at_call 34; refine (HLC.out _ hHeld.1).mono ?_; rintro e w5 ⟨v5, rfl, ho5, hx5⟩; have HO5 := Lib.hid ho5; have HX5 := Lib.hid hx5; have HS5 := Lib.hid hHeld.1.size; (try (have HM6 := Lib.hid (HM6.out.kept (hx5.block _ HM6.out.lt)))); obtain ⟨A5, c5, rfl⟩ := ho5.shape; clear ho5 hx5)
  try go_wp2_with fail
  refine hK.out _ _ ?_ (fun hHeld => ?_)
  · exact kept2 hHeld HX5.out
  clear hK K
  try simp only [Act.put, List.setIfInBounds_toArray, List.set_cons_zero, List.set_cons_succ]
  refine wpAnyH_ready (rs := [9]) (by kernel_rfl) (by simp) ?_
  refine AllReadyH.cons (i := 9) rfl (fun K hK => ?_) AllReadyH.nil
  go_simp
  (go_at_call 35; refine (HMC.out _ hHeld.1).mono ?_; rintro e w6 ⟨bn, rfl, hn6, hb6, hx6⟩; have HM6 := Lib.hid hn6; have HX6 := Lib.hid hx6; have HB6 := Lib.hid (Nat.le_trans hHeld.1.size hb6); (try (have HO5 := Lib.hid (HO5.out.ext hx6))); clear hn6 hb6 hx6)
  try go_wp2_with fail
  refine hK.out _ _ ?_ (fun hHeld => ?_)
  · exact kept2 hHeld HX6.out
  clear hK K
  try simp only [Act.put, List.setIfInBounds_toArray, List.set_cons_zero, List.set_cons_succ]
  refine' wpAnyH_take (i := 10) (v := _) rfl (by kernel_rfl) (by kernel_rfl) (by kernel_rfl) (fun _ _ _ h => h) (Or.inl ⟨by rfl, ?_⟩) hHeld ?_
  rotate_left
  · (intro w' hSw; (try dsimp only at hSw); go_simp; (try with_reducible rfl))
  try simp only [Act.put, List.setIfInBounds_toArray, List.set_cons_zero, List.set_cons_succ]
  have HFA := Lib.hid (fun (W : World) (hr : OwnNd w.heap.size W (.slice A5 ns.length c5) ns) (hm : NMap W bn ns) (hx : Ext w W) => (show GrP w.heap.size W.heap.size bn (W.alloc (.cells #[.slice A5 ns.length c5, .map (some bn)] 38)) ns (.slice A5 ns.length c5) from ⟨Blk.new W _ _, hr.ext ((Ext.refl W).alloc _), hm.kept (Below.heap_alloc _ _ _ hm.lt), hx.size, HB6.out, HOK.out.1, HOK.out.2.1, HOK.out.2.2⟩))
  have HFB := Lib.hid (HFA.out _ (HO5.out.mono HS5.out) HM6.out hHeld.1)
  refine wpAnyH_ready (rs := [11]) (by kernel_rfl) (by simp) ?_
  refine AllReadyH.cons (i := 11) rfl (fun K hK => ?_) AllReadyH.nil
  go_simp
  try go_wp2_with fail
  refine hK.out _ _ ?_ (fun hHeld => ?_)
  · exact kept2 hHeld ((Ext.refl _).alloc _)
  clear hK K
  try simp only [Act.put, List.setIfInBounds_toArray, List.set_cons_zero, List.set_cons_succ]
  refine wpAnyH_ready (rs := [12]) (by kernel_rfl) (by simp) ?_
  refine AllReadyH.cons (i := 12) rfl (fun K hK => ?_) AllReadyH.nil
  go_simp
  try go_wp2_with fail
  refine hK.out _ _ ?_ (fun hHeld => ?_)
  · exact hHeld
  clear hK K
  try simp only [Act.put, List.setIfInBounds_toArray, List.set_cons_zero, List.set_cons_succ]
  refine wpAnyH_done (by kernel_rfl) ?_ _
  go_wp2_with fail
  go_ret
  refine ⟨_, bn, _, ?_, HFB.out, hHeld.1⟩
  rfl
end Big
end Go.Proofs.YtaccjdbbkmhanaaGreatDoor
