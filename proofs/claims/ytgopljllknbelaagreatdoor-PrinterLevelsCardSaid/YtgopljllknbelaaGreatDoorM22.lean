import Derived.Test.YtgopljllknbelaaGreatDoorM16
import Derived.Test.YtgopljllknbelaaGreatDoorM9
import Derived.Test.YtgopljllknbelaaGreatDoorM21
import Derived.Test.YtgopljllknbelaaGreatDoorM10
import Derived.Deep.LoopGhost
import Derived.Test.YtgopljllknbelaaGreatDoorM19
/- The scanner's word, number, sign. -/
namespace Go.Proofs.YtgopljllknbelaaGreatDoor
namespace Big
open Go.RowKit
/-- A token has been taken. -/
def Taken (gs : Nat) (w : World) (l : List UInt8) (a : Nat) (ts : List Tok) (k n : Nat) (e : Ending) (w' : World) : Prop :=
  ∃ tv', e = .returned (.bool true) ∧ ScanAt gs w' l (a + n) (ts ++ [⟨k, a, (l.drop a).take n⟩]) tv' ∧ Below gs w w'
/-- None is there. -/
def NotTaken (gs : Nat) (w : World) (l : List UInt8) (a : Nat) (ts : List Tok) (tv : Value) (e : Ending) (w' : World) : Prop :=
  e = .returned (.bool false) ∧ ScanAt gs w' l a ts tv ∧ Below gs w w'
theorem ScanAt.dr {gs a : Nat} {w w' : World} {l : List UInt8} {ts : List Tok} {tv : Value} (h : ScanAt gs w l a ts tv) (hd : Dr w w') : ScanAt gs w' l a ts tv :=
  ⟨hd.blk h.blk, ownsRow_below h.row (fun g _ _ => by rw [hd.heap])⟩
theorem ScanAt.ext {gs a : Nat} {w w' : World} {l : List UInt8} {ts : List Tok} {tv : Value} (h : ScanAt gs w l a ts tv) (hd : Ext w w') : ScanAt gs w' l a ts tv :=
  ⟨h.blk.ext hd, ownsRow_below h.row (fun g _ hg => Below.block hd g hg)⟩
theorem Dr.below {w w' : World} (h : Dr w w') (B : Nat) : Below B w w' := by
  have h1 := h.grown none
  exact ⟨h1.os, h1.tape, h1.output, h1.size, fun g _ => by rw [h.heap]⟩
theorem Ext.below {w w' : World} (h : Ext w w') {B : Nat} (hB : B ≤ w.heap.size) : Below B w w' := Below.mono h hB
theorem take_word {l : List UInt8} {a n : Nat} (h0 : 0 < n) (hn : n = runLen wordN (l.drop a)) (hlet : letN (byteAt l a) = true) : wordB ((l.drop a).take n) = decide (n ≤ 24) := by
  have hle : n ≤ (l.drop a).length := by rw [hn]; exact runLen_le _ _
  have hlen : ((l.drop a).take n).length = n := by rw [List.length_take, Nat.min_eq_left hle]
  rw [wordB_eq, hlen]
  have h1 : (((l.drop a).take n) == []) = false := by
    rw [beq_eq_false_iff_ne]
    intro e
    rw [e] at hlen
    simp at hlen
    omega
  have hb : ∀ i, i < n → byteAt ((l.drop a).take n) i = byteAt l (a + i) := fun i hi => by
    rw [← byteAt_drop]
    unfold byteAt
    rw [List.getD_eq_getElem?_getD, List.getD_eq_getElem?_getD, List.getElem?_take_of_lt hi]
  have h2 : ((l.drop a).take n).all (fun c => wordN c.toNat) = true := by
    refine all_word_true (fun i hi => ?_)
    rw [hlen] at hi
    rw [hb i hi]
    rw [hn] at hi
    exact (run_at hi).2
  rw [h1, hb 0 h0, Nat.add_zero, hlet, h2]
  simp
set_option maxRecDepth 100000 in
theorem mword_any (gs : Nat) (w : World) (l : List UInt8) (a : Nat) (ts : List Tok) (tv : Value) (h : ScanAt gs w l a ts tv) (hl : l.length ≤ 400) (ha : a < l.length) (hn : ts.length ≤ 1000000) (hlet : letN (byteAt l a) = true) :
    Calls Tryz.prog 72 #[.pointer (some ⟨gs, 0, none⟩)] w fun e w' => (runLen wordN (l.drop a) ≤ 24 → Taken gs w l a ts 2 (runLen wordN (l.drop a)) e w') ∧ (24 < runLen wordN (l.drop a) → NotTaken gs w l a ts tv e w') := by
  have HW := Lib.hid (while_word w gs a l tv h.blk (by omega) (by omega))
  have hpos : 0 < runLen wordN (l.drop a) := by
    rcases Nat.eq_zero_or_pos (runLen wordN (l.drop a)) with h0 | h0
    · have h1 := run_stop (p := wordN) (l := l) (a := a) (by omega)
      rw [h0, Nat.add_zero] at h1
      unfold wordN at h1
      rw [hlet] at h1
      cases h1
    · exact h0
  have hrl := runLen_le wordN (l.drop a)
  rw [List.length_drop] at hrl
  have HTW := Lib.hid (take_word hpos rfl hlet)
  have hlen : ((l.drop a).take (runLen wordN (l.drop a))).length = runLen wordN (l.drop a) := by
    rw [List.length_take, List.length_drop]; omega
  have HLEN := Lib.hid hlen
  have HB := Lib.hid h
  generalize hnn : runLen wordN (l.drop a) = n at *
  clear hnn hlen h hlet
  generalize ht : (l.drop a).take n = t at *
  have HT := Lib.hid ht
  have htl : t.length ≤ 400 := by rw [HLEN.out]; omega
  have HWD := Lib.hid (fun W => word_any W t (by omega))
  rw [HTW.out] at HWD
  clear ht
  rcases Nat.lt_or_ge 24 n with h24 | h24
  · rw [decide_eq_false (by omega)] at HWD
    have HC : Hid (24 < n) := Lib.hid h24
    go_enter Tryz.func72, Tryz.ntmps72
    go_wp2_with fail
    refine HW.out.mono ?_
    rintro e w1 ⟨rfl, hd1⟩
    have HD1 := Lib.hid hd1
    clear hd1
    go_wp2_with fail
    refine (HWD.out _).mono ?_
    rintro e w2 ⟨rfl, rfl⟩
    go_wp2_with fail
    go_ret
    exact ⟨fun h1 => by have := HC.out; omega, fun _ => ⟨rfl, HB.out.dr HD1.out, HD1.out.below gs⟩⟩
  · rw [decide_eq_true h24] at HWD
    have HC : Hid (n ≤ 24) := Lib.hid h24
    have HADD := Lib.hid (fun W hd => add_tok gs W l t a 2 ts tv (HB.out.dr hd) hn (by omega) (by omega))
    rw [show ((2 : Nat) : Int) = 2 from rfl] at HADD
    go_enter Tryz.func72, Tryz.ntmps72
    go_wp2_with fail
    refine HW.out.mono ?_
    rintro e w1 ⟨rfl, hd1⟩
    have HD1 := Lib.hid hd1
    clear hd1
    go_wp2_with fail
    refine (HWD.out _).mono ?_
    rintro e w2 ⟨rfl, rfl⟩
    go_wp2_with fail
    refine (HADD.out _ HD1.out).mono ?_
    rintro e w3 ⟨tv3, rfl, hs3, hb3⟩
    have HS3 := Lib.hid hs3
    have HB3 := Lib.hid hb3
    clear hs3 hb3
    go_wp2_with fail
    go_ret
    refine ⟨fun _ => ⟨tv3, rfl, ?_, (HD1.out.below gs).trans HB3.out⟩, fun h1 => by have := HC.out; omega⟩
    have h5 := HS3.out
    rw [HLEN.out] at h5
    rw [HT.out]
    exact h5
end Big
end Go.Proofs.YtgopljllknbelaaGreatDoor
/- The scanner's number and sign. -/
namespace Go.Proofs.YtgopljllknbelaaGreatDoor
namespace Big
open Go.RowKit
set_option maxHeartbeats 1000000 in
set_option maxRecDepth 100000 in
theorem mnumber_any (gs : Nat) (w : World) (l : List UInt8) (a : Nat) (ts : List Tok) (tv : Value) (h : ScanAt gs w l a ts tv) (hm : MaxV w) (hl : l.length ≤ 400) (ha : a < l.length) (hn : ts.length ≤ 1000000) :
    Calls Tryz.prog 74 #[.pointer (some ⟨gs, 0, none⟩)] w fun e w' => (code7 ((l.drop a).take (runLen numN (l.drop a))) = 0 → Taken gs w l a ts 1 (runLen numN (l.drop a)) e w') ∧ (code7 ((l.drop a).take (runLen numN (l.drop a))) ≠ 0 → NotTaken gs w l a ts tv e w') := by
  have HW := Lib.hid (while_num w gs a l tv h.blk (by omega) (by omega))
  have hrl := runLen_le numN (l.drop a)
  rw [List.length_drop] at hrl
  have hlen : ((l.drop a).take (runLen numN (l.drop a))).length = runLen numN (l.drop a) := by
    rw [List.length_take, List.length_drop]; omega
  have HLEN := Lib.hid hlen
  have HB := Lib.hid h
  have HGZ := Lib.hid h.blk.lt
  generalize hnn : runLen numN (l.drop a) = n at *
  clear hnn hlen h
  generalize ht : (l.drop a).take n = t at *
  have HT := Lib.hid ht
  have htl : t.length ≤ 400 := by rw [HLEN.out]; omega
  have HP := Lib.hid (fun W hd => parse7_any W t (hm.ext (Dr.below hd w.heap.size)))
  clear ht hm
  by_cases hc0 : code7 t = 0
  · have HC := Lib.hid hc0
    have HADD := Lib.hid (fun W hd => add_tok gs W l t a 1 ts tv (HB.out.ext hd) hn (by omega) (by omega))
    rw [show ((1 : Nat) : Int) = 1 from rfl] at HADD
    clear hc0
    go_enter Tryz.func74, Tryz.ntmps74
    go_wp2_with fail
    refine HW.out.mono ?_
    rintro e w1 ⟨rfl, hd1⟩
    have HD1 := Lib.hid hd1
    clear hd1
    go_wp2_with fail
    refine (HP.out _ HD1.out).mono ?_
    rintro e w2 ⟨v2, rfl, hr2, hx2⟩
    rw [HC.out]
    obtain ⟨b2, n2, A2, c2, n3, A3, c3, rfl⟩ := hr2.shape
    have HX2 := Lib.hid ((Dr.below HD1.out w.heap.size).trans (hx2.below (Nat.le_of_eq (by rw [HD1.out.heap]))))
    clear hr2 hx2
    go_wp2_with fail
    refine (HADD.out _ (HX2.out.alloc (Below.size HX2.out) _)).mono ?_
    rintro e w3 ⟨tv3, rfl, hs3, hb3⟩
    have HS3 := Lib.hid hs3
    have HB3 := Lib.hid hb3
    clear hs3 hb3
    go_wp2_with fail
    go_ret
    refine ⟨fun _ => ⟨tv3, rfl, ?_, ?_⟩, fun h1 => absurd HC.out h1⟩
    · have h5 := HS3.out
      rw [HLEN.out] at h5
      rw [HT.out]
      exact h5
    · exact ((HX2.out.alloc (Below.size HX2.out) _).mono (Nat.le_of_lt HGZ.out)).trans HB3.out
  · have HC := Lib.hid hc0
    have hcn : ((code7 t : Int) != 0) = true := by rw [bne_iff_ne]; omega
    clear hc0
    go_enter Tryz.func74, Tryz.ntmps74
    go_wp2_with fail
    refine HW.out.mono ?_
    rintro e w1 ⟨rfl, hd1⟩
    have HD1 := Lib.hid hd1
    clear hd1
    go_wp2_with fail
    refine (HP.out _ HD1.out).mono ?_
    rintro e w2 ⟨v2, rfl, hr2, hx2⟩
    obtain ⟨b2, n2, A2, c2, n3, A3, c3, rfl⟩ := hr2.shape
    have HX2 := Lib.hid ((Dr.below HD1.out w.heap.size).trans (hx2.below (Nat.le_of_eq (by rw [HD1.out.heap]))))
    clear hr2 hx2
    go_wp2_with fail
    go_ret
    exact ⟨fun h1 => absurd h1 HC.out, fun _ => ⟨rfl, HB.out.ext (HX2.out.alloc (Below.size HX2.out) _), (HX2.out.alloc (Below.size HX2.out) _).mono (Nat.le_of_lt HGZ.out)⟩⟩
set_option maxHeartbeats 1000000 in
set_option maxRecDepth 100000 in
theorem msign_no (gs : Nat) (w : World) (l : List UInt8) (a : Nat) (ts : List Tok) (tv : Value) (h : ScanAt gs w l a ts tv) (_hl : l.length ≤ 400) (ha : a < l.length) (hs : signN (byteAt l a) = false) :
    Calls Tryz.prog 70 #[.pointer (some ⟨gs, 0, none⟩)] w fun e w' => NotTaken gs w l a ts tv e w' := by
  obtain ⟨k0, k1, k2, f0, f1, f2, hgz⟩ := h.blk.three
  have HB := Lib.hid h
  have hsn : signN (byteAt l a) = (byteAt l a == 43 || byteAt l a == 45 || byteAt l a == 42 || byteAt l a == 47 || byteAt l a == 94 || byteAt l a == 40 || byteAt l a == 41) := rfl
  rw [hs] at hsn
  have hsm := hsn.symm
  clear hsn
  simp only [Bool.or_eq_false_iff, beq_eq_false_iff_ne] at hsm
  obtain ⟨⟨⟨⟨⟨⟨h1, h2⟩, h3⟩, h4⟩, h5⟩, h6⟩, h7⟩ := hsm
  have b1 : ((byteAt l a : Int) == 43) = false := by rw [beq_eq_false_iff_ne]; omega
  have b2 : ((byteAt l a : Int) == 45) = false := by rw [beq_eq_false_iff_ne]; omega
  have b3 : ((byteAt l a : Int) == 42) = false := by rw [beq_eq_false_iff_ne]; omega
  have b4 : ((byteAt l a : Int) == 47) = false := by rw [beq_eq_false_iff_ne]; omega
  have b5 : ((byteAt l a : Int) == 94) = false := by rw [beq_eq_false_iff_ne]; omega
  have b6 : ((byteAt l a : Int) == 40) = false := by rw [beq_eq_false_iff_ne]; omega
  have b7 : ((byteAt l a : Int) == 41) = false := by rw [beq_eq_false_iff_ne]; omega
  clear h h1 h2 h3 h4 h5 h6 h7 hs
  have ha' : (a : Int) < (l.length : Int) := by omega
  go_enter Tryz.func70, Tryz.ntmps70
  go_wp2_with fail
  go_quiet (fail)
  go_wp2_with fail
  go_ret
  exact ⟨rfl, HB.out.dr ((Dr.refl w).drewN _), ((Dr.refl w).drewN _).below gs⟩
set_option maxHeartbeats 1000000 in
set_option maxRecDepth 100000 in
theorem msign_yes (gs : Nat) (w : World) (l : List UInt8) (a : Nat) (ts : List Tok) (tv : Value) (h : ScanAt gs w l a ts tv) (hl : l.length ≤ 400) (ha : a < l.length) (hn : ts.length ≤ 1000000) (hs : signN (byteAt l a) = true) :
    Calls Tryz.prog 70 #[.pointer (some ⟨gs, 0, none⟩)] w fun e w' => Taken gs w l a ts 3 1 e w' := by
  obtain ⟨k0, k1, k2, f0, f1, f2, hgz⟩ := h.blk.three
  have HB := Lib.hid h
  have hsn : signN (byteAt l a) = (byteAt l a == 43 || byteAt l a == 45 || byteAt l a == 42 || byteAt l a == 47 || byteAt l a == 94 || byteAt l a == 40 || byteAt l a == 41) := rfl
  rw [hs] at hsn
  have hsm := hsn.symm
  clear hsn
  simp only [Bool.or_eq_true, beq_iff_eq] at hsm
  have ha' : (a : Int) < (l.length : Int) := by omega
  have hlen : ((l.drop a).take 1).length = 1 := by rw [List.length_take, List.length_drop]; omega
  have HADD := Lib.hid (fun W hd => add_tok gs W l ((l.drop a).take 1) a 3 ts tv (HB.out.dr hd) hn (by omega) (by omega))
  rw [show ((3 : Nat) : Int) = 3 from rfl, hlen, ← run_slice l a 1] at HADD
  have hw1 : IntKind.i64.wrap ((a : Int) + 1) = (a : Int) + 1 := IntWalk.i64_in _ (by omega)
  have hw2 : (0 : Int) ≤ (a : Int) + 1 := by omega
  have hw3 : (a : Int) + 1 ≤ (l.length : Int) := by omega
  have hw4 : ((a : Int) + 1).toNat = a + 1 := by omega
  have hw5 : (a : Int) ≤ (a : Int) + 1 := by omega
  clear h hs hlen
  rcases hsm with (((((h1 | h1) | h1) | h1) | h1) | h1) | h1
  all_goals
    have b1 : ((byteAt l a : Int) == 43) = decide (byteAt l a = 43) := by rw [Bool.eq_iff_iff]; simp; omega
    have b2 : ((byteAt l a : Int) == 45) = decide (byteAt l a = 45) := by rw [Bool.eq_iff_iff]; simp; omega
    have b3 : ((byteAt l a : Int) == 42) = decide (byteAt l a = 42) := by rw [Bool.eq_iff_iff]; simp; omega
    have b4 : ((byteAt l a : Int) == 47) = decide (byteAt l a = 47) := by rw [Bool.eq_iff_iff]; simp; omega
    have b5 : ((byteAt l a : Int) == 94) = decide (byteAt l a = 94) := by rw [Bool.eq_iff_iff]; simp; omega
    have b6 : ((byteAt l a : Int) == 40) = decide (byteAt l a = 40) := by rw [Bool.eq_iff_iff]; simp; omega
    have b7 : ((byteAt l a : Int) == 41) = decide (byteAt l a = 41) := by rw [Bool.eq_iff_iff]; simp; omega
    rw [h1] at b1 b2 b3 b4 b5 b6 b7
    simp only [Nat.reduceEqDiff, decide_true, decide_false] at b1 b2 b3 b4 b5 b6 b7
    have HX := Lib.hid h1
    clear h1
    have b0 : ((byteAt l a : Nat) : Int) = _ := congrArg Nat.cast HX.out
    clear b1 b2 b3 b4 b5 b6 b7
    go_enter Tryz.func70, Tryz.ntmps70
    go_wp2_with fail
    go_quiet (fail)
    clear b0
    go_wp2_with fail
    go_region_law (go_simp; go_at_call 102; refine (HADD.out _ ((Dr.refl w).drewN _)).mono ?_; rintro e w3 ⟨tv3, rfl, hs3, hb3⟩; have HS3 := Lib.hid hs3; have HB3 := Lib.hid hb3; clear hs3 hb3)
    all_goals
      go_wp2_with fail
      go_ret
      refine ⟨tv3, rfl, ?_, (((Dr.refl w).drewN _).below gs).trans HB3.out⟩
      rw [← run_slice l a 1]
      exact HS3.out
end Big
end Go.Proofs.YtgopljllknbelaaGreatDoor
/- lexer.Scan. -/
namespace Go.Proofs.YtgopljllknbelaaGreatDoor
namespace Big
open Go.RowKit
theorem drop_head {l : List UInt8} {a : Nat} (ha : a < l.length) : ∃ c t, l.drop a = c :: t ∧ c.toNat = byteAt l a ∧ l[a]? = some c := by
  refine ⟨l[a], l.drop (a + 1), List.drop_eq_getElem_cons ha, (byteAt_eq l a ha).symm, List.getElem?_eq_getElem ha⟩
theorem tok_letter {l : List UInt8} {a : Nat} (ha : a < l.length) (h : letN (byteAt l a) = true) : tokLen (l.drop a) = if runLen wordN (l.drop a) ≤ 24 then some (2, runLen wordN (l.drop a)) else none := by
  obtain ⟨c, t, h1, h2, _⟩ := drop_head ha
  rw [h1]
  unfold tokLen
  simp only
  rw [h2, if_pos h]
theorem tok_digit {l : List UInt8} {a : Nat} (ha : a < l.length) (h0 : letN (byteAt l a) = false) (h : digN (byteAt l a) = true) : tokLen (l.drop a) = if code7 ((l.drop a).take (runLen numN (l.drop a))) = 0 then some (1, runLen numN (l.drop a)) else none := by
  obtain ⟨c, t, h1, h2, _⟩ := drop_head ha
  rw [h1]
  unfold tokLen
  simp only
  rw [h2, h0, h]
  simp
theorem tok_sign {l : List UInt8} {a : Nat} (ha : a < l.length) (h0 : letN (byteAt l a) = false) (h : digN (byteAt l a) = false) : tokLen (l.drop a) = if signN (byteAt l a) then some (3, 1) else none := by
  obtain ⟨c, t, h1, h2, _⟩ := drop_head ha
  rw [h1]
  unfold tokLen
  simp only
  rw [h2, h0, h]
  simp
theorem byte_space {l : List UInt8} {a : Nat} (ha : a < l.length) : l[a]? = some 32 ↔ byteAt l a = 32 := by
  obtain ⟨c, t, _, h2, h3⟩ := drop_head ha
  rw [h3, ← h2]
  constructor
  · intro h; injection h with h; rw [h]; rfl
  · intro h
    congr 1
    apply UInt8.toNat_inj.1
    rw [h]; rfl
/-- What Scan returns. -/
def ScanRes (w : World) (l : List UInt8) (e : Ending) (w' : World) : Prop :=
  ∃ v, e = .returned (.tuple #[v, .int .i64 ((scanT l).2.1 : Int), .int .i64 ((scanT l).2.2 : Int)]) ∧ w'.ownsRow w.heap.size 79 3 v (scanT l).1.length (toksC (scanT l).1) ∧ Ext w w'
set_option maxRecDepth 100000 in
theorem scan_long (w : World) (l : List UInt8) (h : 400 < l.length) : Calls Tryz.prog 43 #[str l] w (ScanRes w l) := by
  have hc : scanT l = ([], 0, 7) := if_pos h
  have h' : (400 : Int) < (l.length : Int) := by omega
  have HC := Lib.hid hc
  clear h hc
  go_enter Tryz.func43, Tryz.ntmps43
  go_wp2_with fail
  go_ret3
  exact ⟨.slice none 0 0, by rw [HC.out]; rfl, by rw [HC.out]; exact ⟨rfl, .inl ⟨rfl, rfl⟩⟩, Ext.refl w⟩
/-- What the loop of Scan holds. -/
def ScanLoop (w wr : World) (l : List UInt8) (a : Nat) (ts : List Tok) (tv : Value) : Prop :=
  ts.length ≤ a ∧ ScanAt w.heap.size wr l a ts tv ∧ Ext w wr ∧ MaxV wr ∧ scanGo l a ts = scanT l
set_option maxHeartbeats 2000000 in
set_option maxRecDepth 100000 in
theorem scan_any (w : World) (l : List UInt8) (hm : MaxV w) : Calls Tryz.prog 43 #[str l] w (ScanRes w l) := by
  rcases Nat.lt_or_ge 400 l.length with hl | hl
  · exact scan_long w l hl
  have HM := Lib.hid hm
  have HT : Hid (scanGo l 0 [] = scanT l) := Lib.hid (by unfold scanT scanGo; rw [if_neg (by omega)])
  have h400 : ¬ (400 : Int) < (l.length : Int) := by omega
  have hmf : ∀ (fn : Fn) (first cap : Array Value) (w : World), (Instr.makeFunc fn first cap).run Tryz.prog w = .ok (.func fn first cap) w := fun _ _ _ _ => rfl
  clear hm
  go_enter Tryz.func43, Tryz.ntmps43
  go_wp2_with fail
  have HS0 : Hid (ScanAt w.heap.size (w.alloc (.cells #[str l, .int .i64 0, .slice none 0 0] 111)) l 0 [] (.slice none 0 0)) := Lib.hid ⟨Blk.new w _ _, rfl, .inl ⟨rfl, rfl⟩⟩
  have HX0 := Lib.hid ((Ext.refl w).alloc (.cells #[str l, .int .i64 0, .slice none 0 0] 111))
  have HMV := Lib.hid (fun W hx => HM.out.ext (w' := W) hx)
  go_loopg [6, 7] l.length (fun gh s6 s7 wr => ∃ (a : Nat) (ts : List Tok) (tv : Value), gh = l.length - a ∧ a ≤ l.length ∧ ScanLoop w wr l a ts tv)
  case atStart => exact ⟨0, [], _, rfl, Nat.zero_le _, Nat.le_refl _, HS0.out, HX0.out, HMV.out _ HX0.out, HT.out⟩
  case round =>
    obtain ⟨a, ts, tv, hgg, hal, htl, hat, hx, hmv, hgo⟩ := hrel
    have HGG := Lib.hid hgg
    have HGO := Lib.hid hgo
    have HX := Lib.hid hx
    have HAT := Lib.hid hat
    obtain ⟨k0, k1, k2, f0, f1, f2, hgz⟩ := hat.blk.three
    obtain ⟨At, ct, htv⟩ := ownsRow_shape hat.row
    subst htv
    clear hgg hgo hx HS0 HX0 HT
    by_cases hlt : a < l.length
    · have hsp := byte_space hlt
      have hbl := byteAt_lt l a
      have HLT := Lib.hid (fun W => isLetter_any W (byteAt l a) hbl)
      have HDG := Lib.hid (fun W => isDigit_any W (byteAt l a) hbl)
      by_cases h32 : byteAt l a = 32
      · have HNX := Lib.hid (scanGo_space (ts := ts) hlt (hsp.2 h32))
        have hb32 : ((byteAt l a : Int) == 32) = true := by rw [h32]; rfl
        have hf1 := HAT.out.blk.set_ 1 (.int .i64 ((a : Int) + 1))
        have HF : Hid (ScanAt w.heap.size (wr.setCell ⟨w.heap.size, 1, none⟩ (.int .i64 ((a : Int) + 1))) l (a + 1) ts (.slice At ts.length ct)) := Lib.hid ⟨by
          rw [Int.natCast_add]
          exact hf1, ownsRow_below HAT.out.row (fun g hg _ => Below.heap_setCell _ _ _ g (by show g ≠ w.heap.size; omega))⟩
        have HXF := Lib.hid (HX.out.setCell (p := ⟨w.heap.size, 1, none⟩) (Nat.le_refl _) (.int .i64 ((a : Int) + 1)))
        clear hsp h32 hf1 hat hmv
        go_wp2_with fail
        go_roundg (l.length - (a + 1))
        case rel => exact ⟨a + 1, ts, _, rfl, by omega, by omega, HF.out, HXF.out, HMV.out _ HXF.out, by rw [← HNX.out]; exact HGO.out⟩
        case measure => rw [HGG.out]; omega
      · have hb32 : ((byteAt l a : Int) == 32) = false := by rw [beq_eq_false_iff_ne]; omega
        have hnsp : l[a]? ≠ some 32 := fun h => h32 (hsp.1 h)
        clear hsp h32
        cases hlet : letN (byteAt l a)
        · rw [hlet] at HLT
          cases hdig : digN (byteAt l a)
          · rw [hdig] at HDG
            have htk := tok_sign hlt hlet hdig
            cases hsg : signN (byteAt l a)
            · have HMW := Lib.hid (msign_no w.heap.size wr l a ts _ hat (by omega) hlt hsg)
              rw [hsg] at htk
              have HR : Hid (scanT l = ([], a, 6)) := Lib.hid (by rw [← HGO.out]; exact scanGo_none hlt hnsp htk)
              clear htk hnsp hlet hdig hmv hsg hat
              go_wp2_with fail
              refine (HLT.out _).mono ?_
              rintro e w2 ⟨rfl, rfl⟩
              go_wp2_with fail
              refine (HDG.out _).mono ?_
              rintro e w2 ⟨rfl, rfl⟩
              go_wp2_with fail
              refine HMW.out.mono ?_
              rintro e w3 hpost
              obtain ⟨rfl, hs3, hb3⟩ := hpost
              obtain ⟨m0, m1, m2, _⟩ := hs3.blk.three
              have HX3 := Lib.hid (HX.out.more hb3)
              clear hs3 hb3
              try clear hpost
              go_wp2_with fail
              go_quiet (fail)
              go_wp2_with fail
              go_ret3
              exact ⟨_, by rw [HR.out]; rfl, by rw [HR.out]; exact ⟨rfl, .inl ⟨rfl, rfl⟩⟩, HX3.out.drewN _⟩
            · have HMW := Lib.hid (msign_yes w.heap.size wr l a ts _ hat (by omega) hlt (by omega) hsg)
              rw [hsg] at htk
              have HNX := Lib.hid (scanGo_some (ts := ts) hlt hnsp htk)
              have hpos := tokLen_pos htk
              rw [List.length_drop] at hpos
              clear htk hnsp hlet hdig hmv hsg hat
              go_wp2_with fail
              refine (HLT.out _).mono ?_
              rintro e w2 ⟨rfl, rfl⟩
              go_wp2_with fail
              refine (HDG.out _).mono ?_
              rintro e w2 ⟨rfl, rfl⟩
              go_wp2_with fail
              refine HMW.out.mono ?_
              rintro e w3 hpost
              obtain ⟨tv3, rfl, hs3, hb3⟩ := hpost
              have HS3 := Lib.hid hs3
              have HX3 := Lib.hid (HX.out.more hb3)
              have HV3 : Hid (MaxV w3) := Lib.hid (HMV.out w3 HX3.out)
              clear hs3 hb3
              try clear hpost
              go_wp2_with fail
              go_roundg (l.length - (a + 1))
              case rel => exact ⟨a + 1, _, tv3, rfl, by omega, by rw [List.length_append, List.length_singleton]; omega, HS3.out, HX3.out, HV3.out, by rw [← HNX.out]; exact HGO.out⟩
              case measure => rw [HGG.out]; omega
          · rw [hdig] at HDG
            have HMW := Lib.hid (mnumber_any w.heap.size wr l a ts _ hat hmv (by omega) hlt (by omega))
            have htk := tok_digit hlt hlet hdig
            clear hat
            by_cases hc0 : code7 ((l.drop a).take (runLen numN (l.drop a))) = 0
            · rw [if_pos hc0] at htk
              have HNX := Lib.hid (scanGo_some (ts := ts) hlt hnsp htk)
              have hpos := tokLen_pos htk
              rw [List.length_drop] at hpos
              have HC := Lib.hid hc0
              clear htk hc0 hnsp hlet hdig hmv
              go_wp2_with fail
              refine (HLT.out _).mono ?_
              rintro e w2 ⟨rfl, rfl⟩
              go_wp2_with fail
              refine (HDG.out _).mono ?_
              rintro e w2 ⟨rfl, rfl⟩
              go_wp2_with fail
              refine HMW.out.mono ?_
              rintro e w3 hpost
              obtain ⟨tv3, rfl, hs3, hb3⟩ := hpost.1 HC.out
              have HS3 := Lib.hid hs3
              have HX3 := Lib.hid (HX.out.more hb3)
              have HV3 : Hid (MaxV w3) := Lib.hid (HMV.out w3 HX3.out)
              clear hs3 hb3
              try clear hpost
              go_wp2_with fail
              go_roundg (l.length - (a + runLen numN (l.drop a)))
              case rel => exact ⟨a + runLen numN (l.drop a), _, tv3, rfl, by omega, by rw [List.length_append, List.length_singleton]; omega, HS3.out, HX3.out, HV3.out, by rw [← HNX.out]; exact HGO.out⟩
              case measure => rw [HGG.out]; omega
            · rw [if_neg hc0] at htk
              have HR : Hid (scanT l = ([], a, 6)) := Lib.hid (by rw [← HGO.out]; exact scanGo_none hlt hnsp htk)
              have HC := Lib.hid hc0
              clear htk hc0 hnsp hlet hdig hmv
              go_wp2_with fail
              refine (HLT.out _).mono ?_
              rintro e w2 ⟨rfl, rfl⟩
              go_wp2_with fail
              refine (HDG.out _).mono ?_
              rintro e w2 ⟨rfl, rfl⟩
              go_wp2_with fail
              refine HMW.out.mono ?_
              rintro e w3 hpost
              obtain ⟨rfl, hs3, hb3⟩ := hpost.2 HC.out
              obtain ⟨m0, m1, m2, _⟩ := hs3.blk.three
              have HX3 := Lib.hid (HX.out.more hb3)
              clear hs3 hb3
              try clear hpost
              go_wp2_with fail
              go_quiet (fail)
              go_wp2_with fail
              go_ret3
              exact ⟨_, by rw [HR.out]; rfl, by rw [HR.out]; exact ⟨rfl, .inl ⟨rfl, rfl⟩⟩, HX3.out.drewN _⟩
        · rw [hlet] at HLT
          clear hmv
          have HMW := Lib.hid (mword_any w.heap.size wr l a ts _ hat (by omega) hlt (by omega) hlet)
          have htk := tok_letter hlt hlet
          clear hat
          rcases Nat.lt_or_ge 24 (runLen wordN (l.drop a)) with h24 | h24
          · rw [if_neg (by omega)] at htk
            have HR : Hid (scanT l = ([], a, 6)) := Lib.hid (by rw [← HGO.out]; exact scanGo_none hlt hnsp htk)
            have HC := Lib.hid h24
            clear htk h24 hnsp hlet
            go_wp2_with fail
            refine (HLT.out _).mono ?_
            rintro e w2 ⟨rfl, rfl⟩
            go_wp2_with fail
            refine HMW.out.mono ?_
            rintro e w3 hpost
            obtain ⟨rfl, hs3, hb3⟩ := hpost.2 HC.out
            obtain ⟨m0, m1, m2, _⟩ := hs3.blk.three
            have HX3 := Lib.hid (HX.out.more hb3)
            clear hs3 hb3
            try clear hpost
            go_wp2_with fail
            go_quiet (fail)
            go_wp2_with fail
            go_ret3
            exact ⟨_, by rw [HR.out]; rfl, by rw [HR.out]; exact ⟨rfl, .inl ⟨rfl, rfl⟩⟩, HX3.out.drewN _⟩
          · rw [if_pos h24] at htk
            have HNX := Lib.hid (scanGo_some (ts := ts) hlt hnsp htk)
            have hpos := tokLen_pos htk
            rw [List.length_drop] at hpos
            have HC := Lib.hid h24
            clear htk h24 hnsp hlet
            go_wp2_with fail
            refine (HLT.out _).mono ?_
            rintro e w2 ⟨rfl, rfl⟩
            go_wp2_with fail
            refine HMW.out.mono ?_
            rintro e w3 hpost
            obtain ⟨tv3, rfl, hs3, hb3⟩ := hpost.1 HC.out
            have HS3 := Lib.hid hs3
            have HX3 := Lib.hid (HX.out.more hb3)
            have HV3 : Hid (MaxV w3) := Lib.hid (HMV.out w3 HX3.out)
            clear hs3 hb3
            try clear hpost
            go_wp2_with fail
            go_roundg (l.length - (a + runLen wordN (l.drop a)))
            case rel => exact ⟨a + runLen wordN (l.drop a), _, tv3, rfl, by omega, by rw [List.length_append, List.length_singleton]; omega, HS3.out, HX3.out, HV3.out, by rw [← HNX.out]; exact HGO.out⟩
            case measure => rw [HGG.out]; omega
    · obtain rfl : a = l.length := by omega
      have HR : Hid (scanT l = (ts, l.length, 0)) := Lib.hid (by rw [← HGO.out]; exact scanGo_end (Nat.le_refl _))
      have HROW := Lib.hid hat.row
      clear hat hmv
      go_wp2_with fail
      go_ret3
      refine ⟨_, by rw [HR.out]; rfl, ?_, HX.out⟩
      rw [HR.out]
      obtain ⟨r1, r2⟩ := HROW.out
      exact ⟨r1, r2.imp id (fun ⟨g, cap, cur, q1, q2, q3⟩ => ⟨g, cap, cur, q1, by omega, q3⟩)⟩
end Big
end Go.Proofs.YtgopljllknbelaaGreatDoor
/- The reference's Scan. -/
namespace Go.Proofs.YtgopljllknbelaaGreatDoor
namespace Big
open Go.RowKit
theorem news3 (w : World) (ty : TypeId) (x y z : Value) : ∀ (j : Nat) (u : Value), [x, y, z][j]? = some u → (w.alloc (.cells #[x, y, z] ty)).cell? ((⟨w.heap.size, 0, none⟩ : Addr).add j) = some u := fun j u hj => by
  have h1 := (Blk.new w ty #[x, y, z]).cell j
  have h2 : (⟨w.heap.size, 0, none⟩ : Addr).add j = ⟨w.heap.size, j, none⟩ := by
    unfold Addr.add
    split
    · rename_i h; subst h; rfl
    · simp
  rw [h2, h1, ← hj]
  simp
theorem ownsRow_lt {w : World} {base : Nat} {e : TypeId} {size n : Nat} {v : Value} {xs : List Value} (h : w.ownsRow base e size v n xs) : ∀ k, v.ownBlock = some k → k < w.heap.size := by
  obtain ⟨h1, h2⟩ := h
  rcases h2 with ⟨rfl, _⟩ | ⟨g, cap, cur, rfl, hg, hh, _⟩
  · intro k hk; simp [Value.ownBlock] at hk
  · intro k hk
    simp only [Value.ownBlock, Option.some.injEq] at hk
    subst hk
    rcases Nat.lt_or_ge g w.heap.size with h | h
    · exact h
    · rw [Array.getElem?_eq_none h] at hh; cases hh
/-- What the loop of the reference's Scan holds. -/
def RScanLoop (w wr : World) (l : List UInt8) (a : Nat) (ts : List Tok) (tv : Value) : Prop :=
  ts.length ≤ a ∧ wr.ownsRow w.heap.size 79 3 tv ts.length (toksC ts) ∧ Ext w wr ∧ MaxV wr ∧ scanGo l a ts = scanT l
/-- A token's block and the list, behind whatever else was made. -/
structure RMid (w wr W : World) (a k : Nat) (t : List UInt8) (ts : List Tok) (tv : Value) : Prop where
  blk : Blk W wr.heap.size 79 #[.int .i64 (k : Int), .int .i64 (a : Int), str t]
  row : W.ownsRow w.heap.size 79 3 tv ts.length (toksC ts)
  own : ∀ b, tv.ownBlock = some b → w.heap.size ≤ b ∧ b < wr.heap.size
  ext : Ext w W
theorem RMid.start {w wr : World} {a k : Nat} {t : List UInt8} {ts : List Tok} {tv : Value} (hx : Ext w wr) (hr : wr.ownsRow w.heap.size 79 3 tv ts.length (toksC ts)) :
    RMid w wr (wr.alloc (.cells #[.int .i64 (k : Int), .int .i64 (a : Int), str t] 79)).drew a k t ts tv :=
  ⟨(Blk.new wr _ _).drew, ownsRow_below hr (fun g _ hg => Below.heap_alloc _ _ g hg), fun b hb => And.intro (ownsRow_block hr b hb) (ownsRow_lt hr b hb), (hx.alloc (.cells #[.int .i64 (k : Int), .int .i64 (a : Int), str t] 79)).drewN 1⟩
theorem RMid.more {w wr W W' : World} {a k : Nat} {t : List UInt8} {ts : List Tok} {tv : Value} (h : RMid w wr W a k t ts tv) (hx : Ext W W') : RMid w wr W' a k t ts tv :=
  ⟨h.blk.ext hx, ownsRow_below h.row (fun g _ hg => Below.block hx g hg), h.own, h.ext.trans hx⟩
/-- Behind the append. -/
theorem RMid.done {w wr W W' : World} {a k : Nat} {t : List UInt8} {ts : List Tok} {tv v' : Value} (h : RMid w wr W a k t ts tv) (ho : Obj) (hg : wr.heap.size < W.heap.size)
    (hown : W'.ownsRow w.heap.size 79 3 v' (ts.length + 1) (toksC ts ++ [.int .i64 (k : Int), .int .i64 (a : Int), str t])) (hgr : (W.alloc ho).grownBy W' tv.ownBlock) :
    Blk W' wr.heap.size 79 #[.int .i64 (k : Int), .int .i64 (a : Int), str t] ∧ W'.ownsRow w.heap.size 79 3 v' (ts ++ [(⟨k, a, t⟩ : Tok)]).length (toksC (ts ++ [(⟨k, a, t⟩ : Tok)])) ∧ Ext w W' := by
  refine ⟨?_, ?_, ?_⟩
  · have h1 := hgr.block wr.heap.size (show wr.heap.size < (W.alloc ho).heap.size by simp; omega) (fun e => by have := (h.own _ e.symm).2; omega)
    exact h1.trans (h.blk.alloc ho)
  · rw [toksC_snoc, List.length_append, List.length_singleton]
    exact hown
  · exact (h.ext.alloc ho).grown hgr (fun b hb => (h.own b hb).1)
theorem rpos {l : List UInt8} {a n : Nat} (_h : a + n ≤ l.length) : (l.take ((a : Int) + (n : Int)).toNat).drop a = (l.drop a).take n := by
  rw [show ((a : Int) + (n : Int)).toNat = a + n by omega, List.drop_take, Nat.add_sub_cancel_left]
set_option maxHeartbeats 4000000 in
set_option maxRecDepth 100000 in
theorem rscan_short (w : World) (l : List UInt8) (hm : MaxV w) (hl : l.length ≤ 400) : Calls Tryz.prog 38 #[str l] w (ScanRes w l) := by
  have HM := Lib.hid hm
  have HT : Hid (scanGo l 0 [] = scanT l) := Lib.hid (by unfold scanT scanGo; rw [if_neg (by omega)])
  have h400 : ¬ (400 : Int) < (l.length : Int) := by omega
  have HMV := Lib.hid (fun W hx => HM.out.ext (w' := W) hx)
  obtain ⟨i0, hi, hz0, hz1, hz2⟩ := info_parts info_tok
  clear hm
  go_enter Tryz.func38, Tryz.ntmps38
  go_wp2_with fail
  go_loopg [5, 6] l.length (fun gh s5 s6 wr => ∃ (a : Nat) (ts : List Tok) (tv : Value), gh = l.length - a ∧ s5 = tv ∧ s6 = .int .i64 (a : Int) ∧ a ≤ l.length ∧ RScanLoop w wr l a ts tv)
  case atStart => exact ⟨0, [], _, rfl, rfl, rfl, Nat.zero_le _, Nat.le_refl _, ⟨rfl, .inl ⟨rfl, rfl⟩⟩, Ext.refl w, HM.out, HT.out⟩
  case round =>
    obtain ⟨a, ts, tv, hgg, rfl, rfl, hal, htl, hrow, hx, hmv, hgo⟩ := hrel
    have HGG := Lib.hid hgg
    have HGO := Lib.hid hgo
    have HX := Lib.hid hx
    have HROW := Lib.hid hrow
    obtain ⟨At, ct, htv⟩ := ownsRow_shape hrow
    subst htv
    clear hgg hgo hx HT hrow
    by_cases hlt : a < l.length
    · have hsp := byte_space hlt
      have hbl := byteAt_lt l a
      have HLT := Lib.hid (fun W => rletter_any W (byteAt l a) hbl)
      have HDG := Lib.hid (fun W => rdigit_any W (byteAt l a) hbl)
      have HSG := Lib.hid (fun W => rsign_any W (byteAt l a) hbl)
      have HX1 := Lib.hid (HX.out.alloc (.cells #[.int .i64 0, .int .i64 (a : Int), .string ⟨#[]⟩] 79))
      have HB1 := Lib.hid (Blk.new wr 79 #[.int .i64 0, .int .i64 (a : Int), .string ⟨#[]⟩])
      have hgz := HX.out.size
      by_cases h32 : byteAt l a = 32
      · have HNX := Lib.hid (scanGo_space (ts := ts) hlt (hsp.2 h32))
        have hb32 : ((byteAt l a : Int) == 32) = true := by rw [h32]; rfl
        have HMV1 := Lib.hid (HMV.out _ HX1.out)
        clear hsp h32 hmv
        go_wp2_with fail
        go_roundg (l.length - (a + 1))
        case rel => exact ⟨a + 1, ts, _, rfl, rfl, by go_num, by omega, by omega, ownsRow_below HROW.out (fun g _ hg => Below.heap_alloc _ _ g hg), HX1.out, HMV1.out, by rw [← HNX.out]; exact HGO.out⟩
        case measure => rw [HGG.out]; omega
      · have hb32 : ((byteAt l a : Int) == 32) = false := by rw [beq_eq_false_iff_ne]; omega
        have hnsp : l[a]? ≠ some 32 := fun h => h32 (hsp.1 h)
        have ha0 : (0 : Int) ≤ (a : Int) := by omega
        have ha1 : (a : Int) ≤ (l.length : Int) := by omega
        clear hsp h32 hmv
        cases hlet : letN (byteAt l a)
        · rw [hlet] at HLT
          cases hdig : digN (byteAt l a)
          · rw [hdig] at HDG
            have htk := tok_sign hlt hlet hdig
            cases hsg : signN (byteAt l a)
            · rw [hsg] at htk HSG
              have HR : Hid (scanT l = ([], a, 6)) := Lib.hid (by rw [← HGO.out]; exact scanGo_none hlt hnsp htk)
              clear htk hnsp hlet hdig hsg
              go_wp2_with fail
              refine (HLT.out _).mono ?_
              rintro e w2 ⟨rfl, rfl⟩
              go_wp2_with fail
              refine (HDG.out _).mono ?_
              rintro e w2 ⟨rfl, rfl⟩
              go_wp2_with fail
              refine (HSG.out _).mono ?_
              rintro e w2 ⟨rfl, rfl⟩
              go_wp2_with fail
              go_ret3
              exact ⟨_, by rw [HR.out]; rfl, by rw [HR.out]; exact ⟨rfl, .inl ⟨rfl, rfl⟩⟩, HX1.out⟩
            · rw [hsg] at htk HSG
              have HNX := Lib.hid (scanGo_some (ts := ts) hlt hnsp htk)
              have hw1 : IntKind.i64.wrap ((a : Int) + 1) = (a : Int) + 1 := IntWalk.i64_in _ (by omega)
              have ha2 : (0 : Int) ≤ (a : Int) + 1 := by omega
              have ha3 : (a : Int) + 1 ≤ (l.length : Int) := by omega
              have ha4 : (a : Int) ≤ (a : Int) + 1 := by omega
              obtain ⟨k0, k1, k2, f0, f1, f2, hgz1⟩ := HB1.out.three
              have HTT : Hid ((l.take (a + 1)).drop a = (l.drop a).take 1) := Lib.hid (by rw [List.drop_take, Nat.add_sub_cancel_left])
              clear htk hnsp hlet hdig hsg
              go_wp2_with fail
              refine (HLT.out _).mono ?_
              rintro e w2 ⟨rfl, rfl⟩
              go_wp2_with fail
              refine (HDG.out _).mono ?_
              rintro e w2 ⟨rfl, rfl⟩
              go_wp2_with fail
              refine (HSG.out _).mono ?_
              rintro e w2 ⟨rfl, rfl⟩
              go_wp2_with fail
              go_region_law (fail)
              have htlen : (List.drop a (List.take (a + 1) l)).length = 1 := by rw [HTT.out, List.length_take, List.length_drop]; omega
              have HM2 : Hid (RMid w wr _ a 3 (List.drop a (List.take (a + 1) l)) ts (.slice At ts.length ct)) := Lib.hid (RMid.start HX.out HROW.out)
              rw [show ((3 : Nat) : Int) = 3 from rfl] at HM2
              have hgw2 : wr.heap.size < (wr.alloc (.cells #[.int .i64 3, .int .i64 (a : Int), str (List.drop a (List.take (a + 1) l))] 79)).drew.heap.size := by simp
              generalize (wr.alloc (.cells #[.int .i64 3, .int .i64 (a : Int), str (List.drop a (List.take (a + 1) l))] 79)).drew = v2 at *
              generalize List.drop a (List.take (a + 1) l) = t at *
              clear k0 k1 k2 f0 f1 f2 hgz1
              have HTL := Lib.hid htlen
              obtain ⟨k0, k1, k2, f0, f1, f2, _⟩ := HM2.out.blk.three
              have hts : ts.length ≤ 400 := by omega
              have hb1 : ts.length + 1 ≤ maxLen := by unfold maxLen; omega
              have hb2 : (ts.length + 1) * 32 ≤ 140737488355328 := by omega
              have HBB1 := Lib.hid hb1
              have HBB2 := Lib.hid hb2
              have hb3 : w.heap.size ≤ (v2.alloc (.cells #[.int .i64 3, .int .i64 (a : Int), str t] 79)).heap.size := by have := HM2.out.ext.size; simp; omega
              have HBB3 := Lib.hid hb3
              have HRO : Hid ((v2.alloc (.cells #[.int .i64 3, .int .i64 (a : Int), str t] 79)).ownsRow w.heap.size 79 3 (.slice At ts.length ct) ts.length (toksC ts)) := Lib.hid (ownsRow_below HM2.out.row (fun g _ hg => Below.heap_alloc _ _ g hg))
              have HNW := Lib.hid (news3 v2 79 (.int .i64 3) (.int .i64 (a : Int)) (str t))
              have hw2 : IntKind.i64.wrap ((a : Int) + (t.length : Int)) = (a : Int) + (t.length : Int) := IntWalk.i64_in _ (by omega)
              clear hb1 hb2 hb3
              go_wp2_with (at_builtin; go_must (refine wpList_append_own _ rfl _ _ 72 rfl w.heap.size 79 i0 _ 3 32 Tryz.underlying72 hi hz0 hz1 hz2 rfl (by decide) _ ts.length (toksC ts) rfl HRO.out ⟨v2.heap.size, 0, none⟩ 1 1 [.int .i64 3, .int .i64 (a : Int), str t] rfl rfl HNW.out (by simp [Value.oneCell', str]) HBB1.out HBB2.out HBB3.out ?_; intro v' w' hown hgr _; have HD := Lib.hid (HM2.out.done _ hgw2 hown hgr); obtain ⟨A', c', rfl⟩ := ownsRow_shape hown; obtain ⟨m0, m1, m2, _⟩ := HD.out.1.three; clear hown hgr))
              go_wp2_with fail
              have HMV9 := Lib.hid (HMV.out _ HD.out.2.2)
              go_roundg (l.length - (a + 1))
              case rel => exact ⟨a + 1, ts ++ [⟨3, a, t⟩], _, rfl, rfl, by go_num, by omega, by rw [List.length_append, List.length_singleton]; omega, HD.out.2.1, HD.out.2.2, HMV9.out, by rw [HTT.out, ← HNX.out]; exact HGO.out⟩
              case measure => rw [HGG.out]; omega
          · rw [hdig] at HDG
            have htk := tok_digit hlt hlet hdig
            have HRW := Lib.hid (fun W => rnumber_any W (l.drop a) (by rw [List.length_drop]; omega))
            have hrl := runLen_le numN (l.drop a)
            rw [List.length_drop] at hrl
            have hpos : 0 < runLen numN (l.drop a) := runLen_pos (by rw [List.length_drop]; omega) (by rw [byteAt_drop, Nat.add_zero]; unfold numN; rw [hdig]; rfl)
            generalize runLen numN (l.drop a) = n at *
            have hw1 : IntKind.i64.wrap ((a : Int) + (n : Int)) = (a : Int) + (n : Int) := IntWalk.i64_in _ (by omega)
            have ha2 : (0 : Int) ≤ (a : Int) + (n : Int) := by omega
            have ha3 : (a : Int) + (n : Int) ≤ (l.length : Int) := by omega
            have ha4 : (a : Int) ≤ (a : Int) + (n : Int) := by omega
            obtain ⟨k0, k1, k2, f0, f1, f2, hgz1⟩ := HB1.out.three
            have HTT := Lib.hid (rpos (l := l) (a := a) (n := n) (by omega))
            go_wp2_with fail
            refine (HLT.out _).mono ?_
            rintro e w2 ⟨rfl, rfl⟩
            go_wp2_with fail
            refine (HDG.out _).mono ?_
            rintro e w2 ⟨rfl, rfl⟩
            go_wp2_with fail
            go_region_law (go_simp; go_at_call 63; refine (HRW.out _).mono ?_; rintro e w3 ⟨rfl, rfl⟩)
            rw [← HTT.out] at htk
            have htlen : (List.drop a (List.take ((a : Int) + (n : Int)).toNat l)).length = n := by rw [HTT.out, List.length_take, List.length_drop]; omega
            have HM2 : Hid (RMid w wr _ a 1 (List.drop a (List.take ((a : Int) + (n : Int)).toNat l)) ts (.slice At ts.length ct)) := Lib.hid (RMid.start HX.out HROW.out)
            rw [show ((1 : Nat) : Int) = 1 from rfl] at HM2
            have hgw2 : wr.heap.size < (wr.alloc (.cells #[.int .i64 1, .int .i64 (a : Int), str (List.drop a (List.take ((a : Int) + (n : Int)).toNat l))] 79)).drew.heap.size := by simp
            generalize (wr.alloc (.cells #[.int .i64 1, .int .i64 (a : Int), str (List.drop a (List.take ((a : Int) + (n : Int)).toNat l))] 79)).drew = v2 at *
            generalize List.drop a (List.take ((a : Int) + (n : Int)).toNat l) = t at *
            clear k0 k1 k2 f0 f1 f2 hgz1
            obtain ⟨q0, q1, q2, _⟩ := HM2.out.blk.three
            have HTL := Lib.hid htlen
            have HP := Lib.hid (fun W => rparse7_any W t)
            by_cases hc0 : code7 t = 0
            · rw [if_pos hc0] at htk
              have HNX := Lib.hid (scanGo_some (ts := ts) hlt hnsp htk)
              have HC := Lib.hid hc0
              clear htk hnsp hlet hdig hc0
              go_wp2_with fail
              refine (HP.out _).mono ?_
              rintro e w5 ⟨v5, rfl, hr5, hx5⟩
              obtain ⟨b5, n5, A5, c5, n6, A6, c6, rfl⟩ := hr5.shape
              have HM3 := Lib.hid (HM2.out.more (hx5.alloc (.cells #[.bool b5, .slice A5 n5 c5, .slice A6 n6 c6] 104)))
              have hgw3 : wr.heap.size < (w5.alloc (.cells #[.bool b5, .slice A5 n5 c5, .slice A6 n6 c6] 104)).heap.size := by have := hx5.size; simp; omega
              clear hr5 hx5 q0 q1 q2
              rw [HC.out]
              go_upto_region 18 with fail
              generalize w5.alloc (.cells #[.bool b5, .slice A5 n5 c5, .slice A6 n6 c6] 104) = v3 at *
              obtain ⟨k0, k1, k2, f0, f1, f2, _⟩ := HM3.out.blk.three
              have hts : ts.length ≤ 400 := by omega
              have hb1 : ts.length + 1 ≤ maxLen := by unfold maxLen; omega
              have hb2 : (ts.length + 1) * 32 ≤ 140737488355328 := by omega
              have HBB1 := Lib.hid hb1
              have HBB2 := Lib.hid hb2
              have hb3 : w.heap.size ≤ (v3.alloc (.cells #[.int .i64 1, .int .i64 (a : Int), str t] 79)).heap.size := by have := HM3.out.ext.size; simp; omega
              have HBB3 := Lib.hid hb3
              have HRO : Hid ((v3.alloc (.cells #[.int .i64 1, .int .i64 (a : Int), str t] 79)).ownsRow w.heap.size 79 3 (.slice At ts.length ct) ts.length (toksC ts)) := Lib.hid (ownsRow_below HM3.out.row (fun g _ hg => Below.heap_alloc _ _ g hg))
              have HNW := Lib.hid (news3 v3 79 (.int .i64 1) (.int .i64 (a : Int)) (str t))
              have hw2 : IntKind.i64.wrap ((a : Int) + (t.length : Int)) = (a : Int) + (t.length : Int) := IntWalk.i64_in _ (by omega)
              clear hb1 hb2 hb3
              go_wp2_with (at_builtin; go_must (refine wpList_append_own _ rfl _ _ 72 rfl w.heap.size 79 i0 _ 3 32 Tryz.underlying72 hi hz0 hz1 hz2 rfl (by decide) _ ts.length (toksC ts) rfl HRO.out ⟨v3.heap.size, 0, none⟩ 1 1 [.int .i64 1, .int .i64 (a : Int), str t] rfl rfl HNW.out (by simp [Value.oneCell', str]) HBB1.out HBB2.out HBB3.out ?_; intro v' w' hown hgr _; have HD := Lib.hid (HM3.out.done _ hgw3 hown hgr); obtain ⟨A', c', rfl⟩ := ownsRow_shape hown; obtain ⟨m0, m1, m2, _⟩ := HD.out.1.three; clear hown hgr))
              go_wp2_with fail
              have HMV9 := Lib.hid (HMV.out _ HD.out.2.2)
              go_roundg (l.length - (a + n))
              case rel => exact ⟨a + n, ts ++ [⟨1, a, t⟩], _, rfl, rfl, by go_num, by omega, by rw [List.length_append, List.length_singleton]; omega, HD.out.2.1, HD.out.2.2, HMV9.out, by rw [HTT.out, ← HNX.out]; exact HGO.out⟩
              case measure => rw [HGG.out]; omega
            · rw [if_neg hc0] at htk
              have HR : Hid (scanT l = ([], a, 6)) := Lib.hid (by rw [← HGO.out]; exact scanGo_none hlt hnsp htk)
              have hcn : ((code7 t : Int) != 0) = true := by rw [bne_iff_ne]; omega
              clear htk hnsp hlet hdig hc0
              go_wp2_with fail
              refine (HP.out _).mono ?_
              rintro e w5 ⟨v5, rfl, hr5, hx5⟩
              obtain ⟨b5, n5, A5, c5, n6, A6, c6, rfl⟩ := hr5.shape
              have HM3 := Lib.hid (HM2.out.more (hx5.alloc (.cells #[.bool b5, .slice A5 n5 c5, .slice A6 n6 c6] 104)))
              have hgw3 : wr.heap.size < (w5.alloc (.cells #[.bool b5, .slice A5 n5 c5, .slice A6 n6 c6] 104)).heap.size := by have := hx5.size; simp; omega
              clear hr5 hx5 q0 q1 q2
              go_wp2_with fail
              go_ret3
              exact ⟨_, by rw [HR.out]; rfl, by rw [HR.out]; exact ⟨rfl, .inl ⟨rfl, rfl⟩⟩, HM3.out.ext⟩
        · rw [hlet] at HLT
          have htk := tok_letter hlt hlet
          have hrw : refWord (l.drop a) = runLen wordN (l.drop a) := by
            unfold refWord
            rw [if_pos (by rw [byteAt_drop, Nat.add_zero]; exact hlet)]
          have HRW := Lib.hid (fun W => rword_any W (l.drop a) (by rw [List.length_drop]; omega))
          rw [hrw] at HRW
          have hrl := runLen_le wordN (l.drop a)
          rw [List.length_drop] at hrl
          have hpos : 0 < runLen wordN (l.drop a) := runLen_pos (by rw [List.length_drop]; omega) (by rw [byteAt_drop, Nat.add_zero]; unfold wordN; rw [hlet]; rfl)
          clear hrw
          generalize runLen wordN (l.drop a) = n at *
          have hw1 : IntKind.i64.wrap ((a : Int) + (n : Int)) = (a : Int) + (n : Int) := IntWalk.i64_in _ (by omega)
          have ha2 : (0 : Int) ≤ (a : Int) + (n : Int) := by omega
          have ha3 : (a : Int) + (n : Int) ≤ (l.length : Int) := by omega
          have ha4 : (a : Int) ≤ (a : Int) + (n : Int) := by omega
          obtain ⟨k0, k1, k2, f0, f1, f2, hgz1⟩ := HB1.out.three
          have HTT := Lib.hid (rpos (l := l) (a := a) (n := n) (by omega))
          go_wp2_with fail
          refine (HLT.out _).mono ?_
          rintro e w2 ⟨rfl, rfl⟩
          go_wp2_with fail
          go_region_law (go_simp; go_at_call 61; refine (HRW.out _).mono ?_; rintro e w3 ⟨rfl, rfl⟩)
          have htlen : (List.drop a (List.take ((a : Int) + (n : Int)).toNat l)).length = n := by rw [HTT.out, List.length_take, List.length_drop]; omega
          have HM2 : Hid (RMid w wr _ a 2 (List.drop a (List.take ((a : Int) + (n : Int)).toNat l)) ts (.slice At ts.length ct)) := Lib.hid (RMid.start HX.out HROW.out)
          rw [show ((2 : Nat) : Int) = 2 from rfl] at HM2
          have hgw2 : wr.heap.size < (wr.alloc (.cells #[.int .i64 2, .int .i64 (a : Int), str (List.drop a (List.take ((a : Int) + (n : Int)).toNat l))] 79)).drew.heap.size := by simp
          generalize (wr.alloc (.cells #[.int .i64 2, .int .i64 (a : Int), str (List.drop a (List.take ((a : Int) + (n : Int)).toNat l))] 79)).drew = v2 at *
          generalize List.drop a (List.take ((a : Int) + (n : Int)).toNat l) = t at *
          clear k0 k1 k2 f0 f1 f2 hgz1
          obtain ⟨q0, q1, q2, _⟩ := HM2.out.blk.three
          have HTL := Lib.hid htlen
          rcases Nat.lt_or_ge 24 n with h24 | h24
          · rw [if_neg (by omega)] at htk
            have HR : Hid (scanT l = ([], a, 6)) := Lib.hid (by rw [← HGO.out]; exact scanGo_none hlt hnsp htk)
            have h24i : (24 : Int) < (t.length : Int) := by omega
            clear htk hnsp hlet htlen
            go_wp2_with fail
            go_ret3
            exact ⟨_, by rw [HR.out]; rfl, by rw [HR.out]; exact ⟨rfl, .inl ⟨rfl, rfl⟩⟩, HM2.out.ext⟩
          · rw [if_pos h24] at htk
            have HNX := Lib.hid (scanGo_some (ts := ts) hlt hnsp htk)
            have h24i : ¬ (24 : Int) < (t.length : Int) := by omega
            clear htk hnsp hlet q0 q1 q2
            obtain ⟨k0, k1, k2, f0, f1, f2, _⟩ := HM2.out.blk.three
            have hts : ts.length ≤ 400 := by omega
            have hb1 : ts.length + 1 ≤ maxLen := by unfold maxLen; omega
            have hb2 : (ts.length + 1) * 32 ≤ 140737488355328 := by omega
            have HBB1 := Lib.hid hb1
            have HBB2 := Lib.hid hb2
            have hb3 : w.heap.size ≤ (v2.alloc (.cells #[.int .i64 2, .int .i64 (a : Int), str t] 79)).heap.size := by have := HM2.out.ext.size; simp; omega
            have HBB3 := Lib.hid hb3
            have HRO : Hid ((v2.alloc (.cells #[.int .i64 2, .int .i64 (a : Int), str t] 79)).ownsRow w.heap.size 79 3 (.slice At ts.length ct) ts.length (toksC ts)) := Lib.hid (ownsRow_below HM2.out.row (fun g _ hg => Below.heap_alloc _ _ g hg))
            have HNW := Lib.hid (news3 v2 79 (.int .i64 2) (.int .i64 (a : Int)) (str t))
            have hw2 : IntKind.i64.wrap ((a : Int) + (t.length : Int)) = (a : Int) + (t.length : Int) := IntWalk.i64_in _ (by omega)
            clear hb1 hb2 hb3
            go_wp2_with (at_builtin; go_must (refine wpList_append_own _ rfl _ _ 72 rfl w.heap.size 79 i0 _ 3 32 Tryz.underlying72 hi hz0 hz1 hz2 rfl (by decide) _ ts.length (toksC ts) rfl HRO.out ⟨v2.heap.size, 0, none⟩ 1 1 [.int .i64 2, .int .i64 (a : Int), str t] rfl rfl HNW.out (by simp [Value.oneCell', str]) HBB1.out HBB2.out HBB3.out ?_; intro v' w' hown hgr _; have HD := Lib.hid (HM2.out.done _ hgw2 hown hgr); obtain ⟨A', c', rfl⟩ := ownsRow_shape hown; obtain ⟨m0, m1, m2, _⟩ := HD.out.1.three; clear hown hgr))
            go_wp2_with fail
            have HMV9 := Lib.hid (HMV.out _ HD.out.2.2)
            go_roundg (l.length - (a + n))
            case rel => exact ⟨a + n, ts ++ [⟨2, a, t⟩], _, rfl, rfl, by go_num, by omega, by rw [List.length_append, List.length_singleton]; omega, HD.out.2.1, HD.out.2.2, HMV9.out, by rw [HTT.out, ← HNX.out]; exact HGO.out⟩
            case measure => rw [HGG.out]; omega
    · obtain rfl : a = l.length := by omega
      have HR : Hid (scanT l = (ts, l.length, 0)) := Lib.hid (by rw [← HGO.out]; exact scanGo_end (Nat.le_refl _))
      clear hmv
      go_wp2_with fail
      go_ret3
      refine ⟨_, by rw [HR.out]; rfl, ?_, HX.out⟩
      rw [HR.out]
      exact HROW.out
set_option maxRecDepth 100000 in
theorem rscan_long (w : World) (l : List UInt8) (h : 400 < l.length) : Calls Tryz.prog 38 #[str l] w (ScanRes w l) := by
  have hc : scanT l = ([], 0, 7) := if_pos h
  have h' : (400 : Int) < (l.length : Int) := by omega
  have HC := Lib.hid hc
  clear h hc
  go_enter Tryz.func38, Tryz.ntmps38
  go_wp2_with fail
  go_ret3
  exact ⟨.slice none 0 0, by rw [HC.out]; rfl, by rw [HC.out]; exact ⟨rfl, .inl ⟨rfl, rfl⟩⟩, Ext.refl w⟩
theorem rscan_any (w : World) (l : List UInt8) (hm : MaxV w) : Calls Tryz.prog 38 #[str l] w (ScanRes w l) := by
  rcases Nat.lt_or_ge 400 l.length with hl | hl
  · exact rscan_long w l hl
  · exact rscan_short w l hm hl
end Big
end Go.Proofs.YtgopljllknbelaaGreatDoor
