import Derived.Test.YtelgknpdiaafaaaGreatDoorM12
import Derived.Test.YtelgknpdiaafaaaGreatDoorM4
import Derived.Deep.LoopGhost
import Derived.Test.YtelgknpdiaafaaaGreatDoorM6
/- The scanner's number and sign. -/
namespace Go.Proofs.YtelgknpdiaafaaaGreatDoor
namespace Big
open Go.RowKit
set_option maxHeartbeats 1000000 in
set_option maxRecDepth 100000 in
theorem mnumber_any (gs : Nat) (w : World) (l : List UInt8) (a : Nat) (ts : List Tok) (tv : Value) (h : ScanAt gs w l a ts tv) (hm : MaxV w) (hl : l.length ≤ 400) (ha : a < l.length) (hn : ts.length ≤ 1000000) :
    Calls Tryz.prog 22 #[.pointer (some ⟨gs, 0, none⟩)] w fun e w' => (code7 ((l.drop a).take (runLen numN (l.drop a))) = 0 → Taken gs w l a ts 1 (runLen numN (l.drop a)) e w') ∧ (code7 ((l.drop a).take (runLen numN (l.drop a))) ≠ 0 → NotTaken gs w l a ts tv e w') := by
  have HW := Lib.hid (while_num w gs a l tv h.blk (by omega) (by omega))
  have hrl := runLen_le numN (l.drop a)
  rw [List.length_drop] at hrl
  have hlen : ((l.drop a).take (runLen numN (l.drop a))).length = runLen numN (l.drop a) := by
    rw [List.length_take, List.length_drop]; omega
  have HLEN := Lib.hid hlen
  have HB := Lib.hid h
  have HGZ := Lib.hid h.blk.lt
  generalize hnn : runLen numN (l.drop a) = n at *
  clear hnn hlen h
  generalize ht : (l.drop a).take n = t at *
  have HT := Lib.hid ht
  have htl : t.length ≤ 400 := by rw [HLEN.out]; omega
  have HP := Lib.hid (fun W hd => parse7_any W t (hm.ext (Dr.below hd w.heap.size)))
  clear ht hm
  by_cases hc0 : code7 t = 0
  · have HC := Lib.hid hc0
    have HADD := Lib.hid (fun W hd => add_tok gs W l t a 1 ts tv (HB.out.ext hd) hn (by omega) (by omega))
    rw [show ((1 : Nat) : Int) = 1 from rfl] at HADD
    clear hc0
    go_enter Tryz.func22, Tryz.ntmps22
    go_wp2_with fail
    refine HW.out.mono ?_
    rintro e w1 ⟨rfl, hd1⟩
    have HD1 := Lib.hid hd1
    clear hd1
    go_wp2_with fail
    refine (HP.out _ HD1.out).mono ?_
    rintro e w2 ⟨v2, rfl, hr2, hx2⟩
    rw [HC.out]
    obtain ⟨b2, n2, A2, c2, n3, A3, c3, rfl⟩ := hr2.shape
    have HX2 := Lib.hid ((Dr.below HD1.out w.heap.size).trans (hx2.below (Nat.le_of_eq (by rw [HD1.out.heap]))))
    clear hr2 hx2
    go_wp2_with fail
    refine (HADD.out _ (HX2.out.alloc (Below.size HX2.out) _)).mono ?_
    rintro e w3 ⟨tv3, rfl, hs3, hb3⟩
    have HS3 := Lib.hid hs3
    have HB3 := Lib.hid hb3
    clear hs3 hb3
    go_wp2_with fail
    go_ret
    refine ⟨fun _ => ⟨tv3, rfl, ?_, ?_⟩, fun h1 => absurd HC.out h1⟩
    · have h5 := HS3.out
      rw [HLEN.out] at h5
      rw [HT.out]
      exact h5
    · exact ((HX2.out.alloc (Below.size HX2.out) _).mono (Nat.le_of_lt HGZ.out)).trans HB3.out
  · have HC := Lib.hid hc0
    have hcn : ((code7 t : Int) != 0) = true := by rw [bne_iff_ne]; omega
    clear hc0
    go_enter Tryz.func22, Tryz.ntmps22
    go_wp2_with fail
    refine HW.out.mono ?_
    rintro e w1 ⟨rfl, hd1⟩
    have HD1 := Lib.hid hd1
    clear hd1
    go_wp2_with fail
    refine (HP.out _ HD1.out).mono ?_
    rintro e w2 ⟨v2, rfl, hr2, hx2⟩
    obtain ⟨b2, n2, A2, c2, n3, A3, c3, rfl⟩ := hr2.shape
    have HX2 := Lib.hid ((Dr.below HD1.out w.heap.size).trans (hx2.below (Nat.le_of_eq (by rw [HD1.out.heap]))))
    clear hr2 hx2
    go_wp2_with fail
    go_ret
    exact ⟨fun h1 => absurd h1 HC.out, fun _ => ⟨rfl, HB.out.ext (HX2.out.alloc (Below.size HX2.out) _), (HX2.out.alloc (Below.size HX2.out) _).mono (Nat.le_of_lt HGZ.out)⟩⟩
set_option maxHeartbeats 1000000 in
set_option maxRecDepth 100000 in
theorem msign_no (gs : Nat) (w : World) (l : List UInt8) (a : Nat) (ts : List Tok) (tv : Value) (h : ScanAt gs w l a ts tv) (hl : l.length ≤ 400) (ha : a < l.length) (hs : signN (byteAt l a) = false) :
    Calls Tryz.prog 18 #[.pointer (some ⟨gs, 0, none⟩)] w fun e w' => NotTaken gs w l a ts tv e w' := by
  obtain ⟨k0, k1, k2, f0, f1, f2, hgz⟩ := h.blk.three
  have HB := Lib.hid h
  have hsn : signN (byteAt l a) = (byteAt l a == 43 || byteAt l a == 45 || byteAt l a == 42 || byteAt l a == 47 || byteAt l a == 94 || byteAt l a == 40 || byteAt l a == 41) := rfl
  rw [hs] at hsn
  have hsm := hsn.symm
  clear hsn
  simp only [Bool.or_eq_false_iff, beq_eq_false_iff_ne] at hsm
  obtain ⟨⟨⟨⟨⟨⟨h1, h2⟩, h3⟩, h4⟩, h5⟩, h6⟩, h7⟩ := hsm
  have b1 : ((byteAt l a : Int) == 43) = false := by rw [beq_eq_false_iff_ne]; omega
  have b2 : ((byteAt l a : Int) == 45) = false := by rw [beq_eq_false_iff_ne]; omega
  have b3 : ((byteAt l a : Int) == 42) = false := by rw [beq_eq_false_iff_ne]; omega
  have b4 : ((byteAt l a : Int) == 47) = false := by rw [beq_eq_false_iff_ne]; omega
  have b5 : ((byteAt l a : Int) == 94) = false := by rw [beq_eq_false_iff_ne]; omega
  have b6 : ((byteAt l a : Int) == 40) = false := by rw [beq_eq_false_iff_ne]; omega
  have b7 : ((byteAt l a : Int) == 41) = false := by rw [beq_eq_false_iff_ne]; omega
  clear h h1 h2 h3 h4 h5 h6 h7 hs
  have ha' : (a : Int) < (l.length : Int) := by omega
  go_enter Tryz.func18, Tryz.ntmps18
  go_wp2_with fail
  go_quiet (fail)
  go_wp2_with fail
  go_ret
  exact ⟨rfl, HB.out.dr ((Dr.refl w).drewN _), ((Dr.refl w).drewN _).below gs⟩
set_option maxHeartbeats 1000000 in
set_option maxRecDepth 100000 in
theorem msign_yes (gs : Nat) (w : World) (l : List UInt8) (a : Nat) (ts : List Tok) (tv : Value) (h : ScanAt gs w l a ts tv) (hl : l.length ≤ 400) (ha : a < l.length) (hn : ts.length ≤ 1000000) (hs : signN (byteAt l a) = true) :
    Calls Tryz.prog 18 #[.pointer (some ⟨gs, 0, none⟩)] w fun e w' => Taken gs w l a ts 3 1 e w' := by
  obtain ⟨k0, k1, k2, f0, f1, f2, hgz⟩ := h.blk.three
  have HB := Lib.hid h
  have hsn : signN (byteAt l a) = (byteAt l a == 43 || byteAt l a == 45 || byteAt l a == 42 || byteAt l a == 47 || byteAt l a == 94 || byteAt l a == 40 || byteAt l a == 41) := rfl
  rw [hs] at hsn
  have hsm := hsn.symm
  clear hsn
  simp only [Bool.or_eq_true, beq_iff_eq] at hsm
  have ha' : (a : Int) < (l.length : Int) := by omega
  have hlen : ((l.drop a).take 1).length = 1 := by rw [List.length_take, List.length_drop]; omega
  have HADD := Lib.hid (fun W hd => add_tok gs W l ((l.drop a).take 1) a 3 ts tv (HB.out.dr hd) hn (by omega) (by omega))
  rw [show ((3 : Nat) : Int) = 3 from rfl, hlen, ← run_slice l a 1] at HADD
  have hw1 : IntKind.i64.wrap ((a : Int) + 1) = (a : Int) + 1 := IntWalk.i64_in _ (by omega)
  have hw2 : (0 : Int) ≤ (a : Int) + 1 := by omega
  have hw3 : (a : Int) + 1 ≤ (l.length : Int) := by omega
  have hw4 : ((a : Int) + 1).toNat = a + 1 := by omega
  have hw5 : (a : Int) ≤ (a : Int) + 1 := by omega
  clear h hs hlen
  rcases hsm with (((((h1 | h1) | h1) | h1) | h1) | h1) | h1
  all_goals
    have b1 : ((byteAt l a : Int) == 43) = decide (byteAt l a = 43) := by rw [Bool.eq_iff_iff]; simp; omega
    have b2 : ((byteAt l a : Int) == 45) = decide (byteAt l a = 45) := by rw [Bool.eq_iff_iff]; simp; omega
    have b3 : ((byteAt l a : Int) == 42) = decide (byteAt l a = 42) := by rw [Bool.eq_iff_iff]; simp; omega
    have b4 : ((byteAt l a : Int) == 47) = decide (byteAt l a = 47) := by rw [Bool.eq_iff_iff]; simp; omega
    have b5 : ((byteAt l a : Int) == 94) = decide (byteAt l a = 94) := by rw [Bool.eq_iff_iff]; simp; omega
    have b6 : ((byteAt l a : Int) == 40) = decide (byteAt l a = 40) := by rw [Bool.eq_iff_iff]; simp; omega
    have b7 : ((byteAt l a : Int) == 41) = decide (byteAt l a = 41) := by rw [Bool.eq_iff_iff]; simp; omega
    rw [h1] at b1 b2 b3 b4 b5 b6 b7
    simp only [Nat.reduceEqDiff, decide_true, decide_false] at b1 b2 b3 b4 b5 b6 b7
    have HX := Lib.hid h1
    clear h1
    have b0 : ((byteAt l a : Nat) : Int) = _ := congrArg Nat.cast HX.out
    clear b1 b2 b3 b4 b5 b6 b7
    go_enter Tryz.func18, Tryz.ntmps18
    go_wp2_with fail
    go_quiet (fail)
    clear b0
    go_wp2_with fail
    go_region_law (go_simp; go_at_call 36; refine (HADD.out _ ((Dr.refl w).drewN _)).mono ?_; rintro e w3 ⟨tv3, rfl, hs3, hb3⟩; have HS3 := Lib.hid hs3; have HB3 := Lib.hid hb3; clear hs3 hb3)
    all_goals
      go_wp2_with fail
      go_ret
      refine ⟨tv3, rfl, ?_, (((Dr.refl w).drewN _).below gs).trans HB3.out⟩
      rw [← run_slice l a 1]
      exact HS3.out
end Big
end Go.Proofs.YtelgknpdiaafaaaGreatDoor
namespace Go.Proofs.YtelgknpdiaafaaaGreatDoor
namespace Big
open Go.RowKit
@[go_sem high] theorem cells_match_str2 (l : List UInt8) : Value.cells.match_1 (fun _ => Array Value) (str l) (fun cs => cs) (fun v => #[v]) = #[str l] := rfl
end Big
end Go.Proofs.YtelgknpdiaafaaaGreatDoor
/- lexer.Scan. -/
namespace Go.Proofs.YtelgknpdiaafaaaGreatDoor
namespace Big
open Go.RowKit
theorem drop_head {l : List UInt8} {a : Nat} (ha : a < l.length) : ∃ c t, l.drop a = c :: t ∧ c.toNat = byteAt l a ∧ l[a]? = some c := by
  refine ⟨l[a], l.drop (a + 1), List.drop_eq_getElem_cons ha, (byteAt_eq l a ha).symm, List.getElem?_eq_getElem ha⟩
theorem tok_letter {l : List UInt8} {a : Nat} (ha : a < l.length) (h : letN (byteAt l a) = true) : tokLen (l.drop a) = if runLen wordN (l.drop a) ≤ 24 then some (2, runLen wordN (l.drop a)) else none := by
  obtain ⟨c, t, h1, h2, _⟩ := drop_head ha
  rw [h1]
  unfold tokLen
  simp only
  rw [h2, if_pos h]
theorem tok_digit {l : List UInt8} {a : Nat} (ha : a < l.length) (h0 : letN (byteAt l a) = false) (h : digN (byteAt l a) = true) : tokLen (l.drop a) = if code7 ((l.drop a).take (runLen numN (l.drop a))) = 0 then some (1, runLen numN (l.drop a)) else none := by
  obtain ⟨c, t, h1, h2, _⟩ := drop_head ha
  rw [h1]
  unfold tokLen
  simp only
  rw [h2, h0, h]
  simp
theorem tok_sign {l : List UInt8} {a : Nat} (ha : a < l.length) (h0 : letN (byteAt l a) = false) (h : digN (byteAt l a) = false) : tokLen (l.drop a) = if signN (byteAt l a) then some (3, 1) else none := by
  obtain ⟨c, t, h1, h2, _⟩ := drop_head ha
  rw [h1]
  unfold tokLen
  simp only
  rw [h2, h0, h]
  simp
theorem byte_space {l : List UInt8} {a : Nat} (ha : a < l.length) : l[a]? = some 32 ↔ byteAt l a = 32 := by
  obtain ⟨c, t, _, h2, h3⟩ := drop_head ha
  rw [h3, ← h2]
  constructor
  · intro h; injection h with h; rw [h]; rfl
  · intro h
    congr 1
    apply UInt8.toNat_inj.1
    rw [h]; rfl
/-- What Scan returns. -/
def ScanRes (w : World) (l : List UInt8) (e : Ending) (w' : World) : Prop :=
  ∃ v, e = .returned (.tuple #[v, .int .i64 ((scanT l).2.1 : Int), .int .i64 ((scanT l).2.2 : Int)]) ∧ w'.ownsRow w.heap.size 40 3 v (scanT l).1.length (toksC (scanT l).1) ∧ Ext w w'
set_option maxRecDepth 100000 in
theorem scan_long (w : World) (l : List UInt8) (h : 400 < l.length) : Calls Tryz.prog 12 #[str l] w (ScanRes w l) := by
  have hc : scanT l = ([], 0, 7) := if_pos h
  have h' : (400 : Int) < (l.length : Int) := by omega
  have HC := Lib.hid hc
  clear h hc
  go_enter Tryz.func12, Tryz.ntmps12
  go_wp2_with fail
  go_ret3
  exact ⟨.slice none 0 0, by rw [HC.out]; rfl, by rw [HC.out]; exact ⟨rfl, .inl ⟨rfl, rfl⟩⟩, Ext.refl w⟩
/-- What the loop of Scan holds. -/
def ScanLoop (w wr : World) (l : List UInt8) (a : Nat) (ts : List Tok) (tv : Value) : Prop :=
  ts.length ≤ a ∧ ScanAt w.heap.size wr l a ts tv ∧ Ext w wr ∧ MaxV wr ∧ scanGo l a ts = scanT l
set_option maxHeartbeats 2000000 in
set_option maxRecDepth 100000 in
theorem scan_any (w : World) (l : List UInt8) (hm : MaxV w) : Calls Tryz.prog 12 #[str l] w (ScanRes w l) := by
  rcases Nat.lt_or_ge 400 l.length with hl | hl
  · exact scan_long w l hl
  have HM := Lib.hid hm
  have HT : Hid (scanGo l 0 [] = scanT l) := Lib.hid (by unfold scanT scanGo; rw [if_neg (by omega)])
  have h400 : ¬ (400 : Int) < (l.length : Int) := by omega
  have hmf : ∀ (fn : Fn) (first cap : Array Value) (w : World), (Instr.makeFunc fn first cap).run Tryz.prog w = .ok (.func fn first cap) w := fun _ _ _ _ => rfl
  clear hm
  go_enter Tryz.func12, Tryz.ntmps12
  go_wp2_with fail
  have HS0 : Hid (ScanAt w.heap.size (w.alloc (.cells #[str l, .int .i64 0, .slice none 0 0] 50)) l 0 [] (.slice none 0 0)) := Lib.hid ⟨Blk.new w _ _, rfl, .inl ⟨rfl, rfl⟩⟩
  have HX0 := Lib.hid ((Ext.refl w).alloc (.cells #[str l, .int .i64 0, .slice none 0 0] 50))
  have HMV := Lib.hid (fun W hx => HM.out.ext (w' := W) hx)
  go_loopg [6, 7] l.length (fun gh s6 s7 wr => ∃ (a : Nat) (ts : List Tok) (tv : Value), gh = l.length - a ∧ a ≤ l.length ∧ ScanLoop w wr l a ts tv)
  case atStart => exact ⟨0, [], _, rfl, Nat.zero_le _, Nat.le_refl _, HS0.out, HX0.out, HMV.out _ HX0.out, HT.out⟩
  case round =>
    obtain ⟨a, ts, tv, hgg, hal, htl, hat, hx, hmv, hgo⟩ := hrel
    have HGG := Lib.hid hgg
    have HGO := Lib.hid hgo
    have HX := Lib.hid hx
    have HAT := Lib.hid hat
    obtain ⟨k0, k1, k2, f0, f1, f2, hgz⟩ := hat.blk.three
    obtain ⟨At, ct, htv⟩ := ownsRow_shape hat.row
    subst htv
    clear hgg hgo hx HS0 HX0 HT
    by_cases hlt : a < l.length
    · have hsp := byte_space hlt
      have hbl := byteAt_lt l a
      have HLT := Lib.hid (fun W => isLetter_any W (byteAt l a) hbl)
      have HDG := Lib.hid (fun W => isDigit_any W (byteAt l a) hbl)
      by_cases h32 : byteAt l a = 32
      · have HNX := Lib.hid (scanGo_space (ts := ts) hlt (hsp.2 h32))
        have hb32 : ((byteAt l a : Int) == 32) = true := by rw [h32]; rfl
        have hf1 := HAT.out.blk.set_ 1 (.int .i64 ((a : Int) + 1))
        have HF : Hid (ScanAt w.heap.size (wr.setCell ⟨w.heap.size, 1, none⟩ (.int .i64 ((a : Int) + 1))) l (a + 1) ts (.slice At ts.length ct)) := Lib.hid ⟨by
          rw [Int.natCast_add]
          exact hf1, ownsRow_below HAT.out.row (fun g hg _ => Below.heap_setCell _ _ _ g (by show g ≠ w.heap.size; omega))⟩
        have HXF := Lib.hid (HX.out.setCell (p := ⟨w.heap.size, 1, none⟩) (Nat.le_refl _) (.int .i64 ((a : Int) + 1)))
        clear hsp h32 hf1 hat hmv
        go_wp2_with fail
        go_roundg (l.length - (a + 1))
        case rel => exact ⟨a + 1, ts, _, rfl, by omega, by omega, HF.out, HXF.out, HMV.out _ HXF.out, by rw [← HNX.out]; exact HGO.out⟩
        case measure => rw [HGG.out]; omega
      · have hb32 : ((byteAt l a : Int) == 32) = false := by rw [beq_eq_false_iff_ne]; omega
        have hnsp : l[a]? ≠ some 32 := fun h => h32 (hsp.1 h)
        clear hsp h32
        cases hlet : letN (byteAt l a)
        · rw [hlet] at HLT
          cases hdig : digN (byteAt l a)
          · rw [hdig] at HDG
            have htk := tok_sign hlt hlet hdig
            cases hsg : signN (byteAt l a)
            · have HMW := Lib.hid (msign_no w.heap.size wr l a ts _ hat (by omega) hlt hsg)
              rw [hsg] at htk
              have HR : Hid (scanT l = ([], a, 6)) := Lib.hid (by rw [← HGO.out]; exact scanGo_none hlt hnsp htk)
              clear htk hnsp hlet hdig hmv hsg hat
              go_wp2_with fail
              refine (HLT.out _).mono ?_
              rintro e w2 ⟨rfl, rfl⟩
              go_wp2_with fail
              refine (HDG.out _).mono ?_
              rintro e w2 ⟨rfl, rfl⟩
              go_wp2_with fail
              refine HMW.out.mono ?_
              rintro e w3 hpost
              obtain ⟨rfl, hs3, hb3⟩ := hpost
              obtain ⟨m0, m1, m2, _⟩ := hs3.blk.three
              have HX3 := Lib.hid (HX.out.more hb3)
              clear hs3 hb3
              try clear hpost
              go_wp2_with fail
              go_quiet (fail)
              go_wp2_with fail
              go_ret3
              exact ⟨_, by rw [HR.out]; rfl, by rw [HR.out]; exact ⟨rfl, .inl ⟨rfl, rfl⟩⟩, HX3.out.drewN _⟩
            · have HMW := Lib.hid (msign_yes w.heap.size wr l a ts _ hat (by omega) hlt (by omega) hsg)
              rw [hsg] at htk
              have HNX := Lib.hid (scanGo_some (ts := ts) hlt hnsp htk)
              have hpos := tokLen_pos htk
              rw [List.length_drop] at hpos
              clear htk hnsp hlet hdig hmv hsg hat
              go_wp2_with fail
              refine (HLT.out _).mono ?_
              rintro e w2 ⟨rfl, rfl⟩
              go_wp2_with fail
              refine (HDG.out _).mono ?_
              rintro e w2 ⟨rfl, rfl⟩
              go_wp2_with fail
              refine HMW.out.mono ?_
              rintro e w3 hpost
              obtain ⟨tv3, rfl, hs3, hb3⟩ := hpost
              have HS3 := Lib.hid hs3
              have HX3 := Lib.hid (HX.out.more hb3)
              have HV3 : Hid (MaxV w3) := Lib.hid (HMV.out w3 HX3.out)
              clear hs3 hb3
              try clear hpost
              go_wp2_with fail
              go_roundg (l.length - (a + 1))
              case rel => exact ⟨a + 1, _, tv3, rfl, by omega, by rw [List.length_append, List.length_singleton]; omega, HS3.out, HX3.out, HV3.out, by rw [← HNX.out]; exact HGO.out⟩
              case measure => rw [HGG.out]; omega
          · rw [hdig] at HDG
            have HMW := Lib.hid (mnumber_any w.heap.size wr l a ts _ hat hmv (by omega) hlt (by omega))
            have htk := tok_digit hlt hlet hdig
            clear hat
            by_cases hc0 : code7 ((l.drop a).take (runLen numN (l.drop a))) = 0
            · rw [if_pos hc0] at htk
              have HNX := Lib.hid (scanGo_some (ts := ts) hlt hnsp htk)
              have hpos := tokLen_pos htk
              rw [List.length_drop] at hpos
              have HC := Lib.hid hc0
              clear htk hc0 hnsp hlet hdig hmv
              go_wp2_with fail
              refine (HLT.out _).mono ?_
              rintro e w2 ⟨rfl, rfl⟩
              go_wp2_with fail
              refine (HDG.out _).mono ?_
              rintro e w2 ⟨rfl, rfl⟩
              go_wp2_with fail
              refine HMW.out.mono ?_
              rintro e w3 hpost
              obtain ⟨tv3, rfl, hs3, hb3⟩ := hpost.1 HC.out
              have HS3 := Lib.hid hs3
              have HX3 := Lib.hid (HX.out.more hb3)
              have HV3 : Hid (MaxV w3) := Lib.hid (HMV.out w3 HX3.out)
              clear hs3 hb3
              try clear hpost
              go_wp2_with fail
              go_roundg (l.length - (a + runLen numN (l.drop a)))
              case rel => exact ⟨a + runLen numN (l.drop a), _, tv3, rfl, by omega, by rw [List.length_append, List.length_singleton]; omega, HS3.out, HX3.out, HV3.out, by rw [← HNX.out]; exact HGO.out⟩
              case measure => rw [HGG.out]; omega
            · rw [if_neg hc0] at htk
              have HR : Hid (scanT l = ([], a, 6)) := Lib.hid (by rw [← HGO.out]; exact scanGo_none hlt hnsp htk)
              have HC := Lib.hid hc0
              clear htk hc0 hnsp hlet hdig hmv
              go_wp2_with fail
              refine (HLT.out _).mono ?_
              rintro e w2 ⟨rfl, rfl⟩
              go_wp2_with fail
              refine (HDG.out _).mono ?_
              rintro e w2 ⟨rfl, rfl⟩
              go_wp2_with fail
              refine HMW.out.mono ?_
              rintro e w3 hpost
              obtain ⟨rfl, hs3, hb3⟩ := hpost.2 HC.out
              obtain ⟨m0, m1, m2, _⟩ := hs3.blk.three
              have HX3 := Lib.hid (HX.out.more hb3)
              clear hs3 hb3
              try clear hpost
              go_wp2_with fail
              go_quiet (fail)
              go_wp2_with fail
              go_ret3
              exact ⟨_, by rw [HR.out]; rfl, by rw [HR.out]; exact ⟨rfl, .inl ⟨rfl, rfl⟩⟩, HX3.out.drewN _⟩
        · rw [hlet] at HLT
          clear hmv
          have HMW := Lib.hid (mword_any w.heap.size wr l a ts _ hat (by omega) hlt (by omega) hlet)
          have htk := tok_letter hlt hlet
          clear hat
          rcases Nat.lt_or_ge 24 (runLen wordN (l.drop a)) with h24 | h24
          · rw [if_neg (by omega)] at htk
            have HR : Hid (scanT l = ([], a, 6)) := Lib.hid (by rw [← HGO.out]; exact scanGo_none hlt hnsp htk)
            have HC := Lib.hid h24
            clear htk h24 hnsp hlet
            go_wp2_with fail
            refine (HLT.out _).mono ?_
            rintro e w2 ⟨rfl, rfl⟩
            go_wp2_with fail
            refine HMW.out.mono ?_
            rintro e w3 hpost
            obtain ⟨rfl, hs3, hb3⟩ := hpost.2 HC.out
            obtain ⟨m0, m1, m2, _⟩ := hs3.blk.three
            have HX3 := Lib.hid (HX.out.more hb3)
            clear hs3 hb3
            try clear hpost
            go_wp2_with fail
            go_quiet (fail)
            go_wp2_with fail
            go_ret3
            exact ⟨_, by rw [HR.out]; rfl, by rw [HR.out]; exact ⟨rfl, .inl ⟨rfl, rfl⟩⟩, HX3.out.drewN _⟩
          · rw [if_pos h24] at htk
            have HNX := Lib.hid (scanGo_some (ts := ts) hlt hnsp htk)
            have hpos := tokLen_pos htk
            rw [List.length_drop] at hpos
            have HC := Lib.hid h24
            clear htk h24 hnsp hlet
            go_wp2_with fail
            refine (HLT.out _).mono ?_
            rintro e w2 ⟨rfl, rfl⟩
            go_wp2_with fail
            refine HMW.out.mono ?_
            rintro e w3 hpost
            obtain ⟨tv3, rfl, hs3, hb3⟩ := hpost.1 HC.out
            have HS3 := Lib.hid hs3
            have HX3 := Lib.hid (HX.out.more hb3)
            have HV3 : Hid (MaxV w3) := Lib.hid (HMV.out w3 HX3.out)
            clear hs3 hb3
            try clear hpost
            go_wp2_with fail
            go_roundg (l.length - (a + runLen wordN (l.drop a)))
            case rel => exact ⟨a + runLen wordN (l.drop a), _, tv3, rfl, by omega, by rw [List.length_append, List.length_singleton]; omega, HS3.out, HX3.out, HV3.out, by rw [← HNX.out]; exact HGO.out⟩
            case measure => rw [HGG.out]; omega
    · obtain rfl : a = l.length := by omega
      have HR : Hid (scanT l = (ts, l.length, 0)) := Lib.hid (by rw [← HGO.out]; exact scanGo_end (Nat.le_refl _))
      have HROW := Lib.hid hat.row
      clear hat hmv
      go_wp2_with fail
      go_ret3
      refine ⟨_, by rw [HR.out]; rfl, ?_, HX.out⟩
      rw [HR.out]
      obtain ⟨r1, r2⟩ := HROW.out
      exact ⟨r1, r2.imp id (fun ⟨g, cap, cur, q1, q2, q3⟩ => ⟨g, cap, cur, q1, by omega, q3⟩)⟩
end Big
end Go.Proofs.YtelgknpdiaafaaaGreatDoor
/- Words for lists of texts. -/
namespace Go.Proofs.YtelgknpdiaafaaaGreatDoor
namespace Big
open Go.RowKit
theorem info_str : (Tryz.prog.info? 9).map (fun i => (i.zero, i.size, i.bytes)) = some (some (.string ⟨#[]⟩), 1, 16) := by kernel_rfl
/-- v reads as the list ls of texts. -/
def ArrS (w : World) (v : Value) (ls : List (List UInt8)) : Prop := RArr w v (ls.map str)
def OwnS (B : Nat) (w : World) (v : Value) (ls : List (List UInt8)) : Prop := ROwn 9 B w v (ls.map str)
section
variable {w w' : World} {v : Value} {ls : List (List UInt8)} {B B' : Nat}
theorem ArrS.ext (h : ArrS w v ls) (hb : Ext w w') : ArrS w' v ls := RArr.ext h hb
theorem OwnS.ext (h : OwnS B w v ls) (hb : Ext w w') : OwnS B w' v ls := ROwn.ext h hb
theorem OwnS.mono (h : OwnS B w v ls) (hB : B' ≤ B) : OwnS B' w v ls := ROwn.mono h hB
theorem OwnS.arr (h : OwnS B w v ls) : ArrS w v ls := ROwn.arr h
theorem OwnS.none_ (B : Nat) (w : World) : OwnS B w (.slice none 0 0) [] := ROwn.none_ _ B w
theorem map_str_get {j : Nat} (hj : j < ls.length) : (ls.map str)[j]? = some (str ls[j]) := by
  rw [List.getElem?_map, List.getElem?_eq_getElem hj]; rfl
theorem ArrS.open (h : ArrS w v ls) : ∃ A c, v = .slice A ls.length c ∧ ls.length ≤ c ∧ c ≤ maxLen ∧
    (0 < ls.length → ∃ b o, A = some ⟨b, o, none⟩ ∧ b < w.heap.size ∧ ∀ j (hj : j < ls.length), w.cell? ⟨b, o + j, none⟩ = some (str ls[j])) := by
  obtain ⟨A, c, rfl, h2, h3, h4⟩ := h
  rw [List.length_map] at h2 h4
  refine ⟨A, c, by rw [List.length_map], h2, h3, fun hp => ?_⟩
  obtain ⟨b, o, rfl, hlt, hc⟩ := h4 hp
  exact ⟨b, o, rfl, hlt, fun j hj => hc j _ (map_str_get hj)⟩
theorem ArrS.shape (h : ArrS w v ls) : ∃ n A c, v = .slice A n c := RArr.shape h
theorem ArrS.len {n c : Nat} {A : Option Addr} (h : ArrS w (.slice A n c) ls) : n = ls.length := by
  obtain ⟨A', c', he, _⟩ := h
  injection he with _ h2 _
  rw [h2, List.length_map]
theorem ones_str : ∀ u ∈ ls.map str, u.oneCell' = true := fun u hu => by
  obtain ⟨x, _, rfl⟩ := List.mem_map.1 hu
  rfl
/-- A slice over a whole block of texts. -/
theorem OwnS.block {g : Nat} (h : Blk w g 9 (ls.map str).toArray) (hg : B ≤ g) (hm : ls.length ≤ 2147483648) : OwnS B w (.slice (some ⟨g, 0, none⟩) ls.length ls.length) ls := by
  refine ⟨some ⟨g, 0, none⟩, ls.length, by rw [List.length_map], by rw [List.length_map]; omega, by unfold maxLen; omega, .inr ⟨g, _, rfl, hg, h, by simp, ?_⟩⟩
  rw [List.length_map]
  show (ls.map str).take ls.length = _
  rw [List.take_of_length_le (by simp)]
end
theorem wpList_appendS {w : World} {v src : Value} {xs ys : List (List UInt8)} {B : Nat} {ops : Array Oper} {rest : List Oper} {o : Oper} {a : Act} {Q : Exit → Act → World → Prop} (hgd : o.guard = none) (s x : Operand)
    (ho : o.op = .call { callee := .builtin .append, args := #[s, x], argTypes := #[31, 31] })
    (hs : a.eval s = v) (hown : OwnS B w v xs) (hx : a.eval x = src) (hsrc : ArrS w src ys) (hn : xs.length + ys.length ≤ 2147483648) (hbase : B ≤ w.heap.size)
    (h : ∀ v' w', OwnS B w' v' (xs ++ ys) → w.grownBy w' (rowOf v) → Below B w w' → wpList Tryz.prog ops Q rest (a.put o.dst v') w') : wpList Tryz.prog ops Q (o :: rest) a w := by
  obtain ⟨i0, hi, hz0, hz1, hz2⟩ := info_parts info_str
  refine wpList_append_any hgd s x 31 ho 9 i0 _ 16 Tryz.underlying31 hi hz0 hz1 hz2 rfl hs hown hx hsrc ones_str (by simp only [List.length_map]; unfold maxLen; omega) (by simp only [List.length_map]; omega) hbase (fun v' w' h1 h2 h3 => h v' w' ?_ h2 h3)
  unfold OwnS
  rw [List.map_append]
  exact h1
theorem ArrS.fresh1 (w : World) (l : List UInt8) : ArrS (w.alloc (.cells #[str l] 9)) (.slice (some ⟨w.heap.size, 0, none⟩) 1 1) [l] := RArr.one (by simp)

/-- Do two lists of texts agree up to k? -/
theorem take_step {ls ms : List (List UInt8)} {k : Nat} (h : ls.take k = ms.take k) (h1 : k < ls.length) (h2 : k < ms.length) (he : ls[k] = ms[k]) : ls.take (k + 1) = ms.take (k + 1) := by
  rw [List.take_succ_eq_append_getElem h1, List.take_succ_eq_append_getElem h2, h, he]

end Big
end Go.Proofs.YtelgknpdiaafaaaGreatDoor
