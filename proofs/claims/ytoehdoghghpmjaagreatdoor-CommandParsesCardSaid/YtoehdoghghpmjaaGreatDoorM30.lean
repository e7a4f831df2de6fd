import Derived.Test.YtoehdoghghpmjaaGreatDoorM28
import Derived.Test.YtoehdoghghpmjaaGreatDoorM29
/- mill.Command: some of its ways. -/
namespace Go.Proofs.YtoehdoghghpmjaaGreatDoor
namespace Big
open Go.RowKit
set_option maxHeartbeats 8000000 in
set_option maxRecDepth 100000 in
theorem command_g (w : World) (g : Nat) (L : Value) (l : List Int) (a : Nat) (P : Int) (h : TapeAt w.heap.size g w L l a) (_hP1 : 1 ≤ P) (_hP2 : P ≤ 1000000) (hkey : nextV l (nextA l (nextA l a)) 26 = 18 ∨ nextV l (nextA l (nextA l a)) 26 = 19 ∨ nextV l (nextA l (nextA l a)) 26 = 20) :
    Calls Tryz.prog 10 #[.pointer (some ⟨g, 0, none⟩), .int .i64 P] w (CmdPost w.heap.size g w L l) := by
  have HT := Lib.hid h
  have HKEY := Lib.hid hkey
  clear h hkey
  go_enter Tryz.func10, Tryz.ntmps10
  go_wp2_with fail
  refine (labels_any _).mono ?_
  rintro e w1 ⟨gl, rfl, hb1, hx1, hgl⟩
  have HA1 := Lib.hid ((Blk.new w 31 #[.int .i64 0, .string ⟨#[]⟩, .string ⟨#[]⟩, .string ⟨#[]⟩, .int .i64 0]).ext hx1)
  have HX1 : Hid (Ext w w1) := Lib.hid (((Ext.refl w).alloc _).trans hx1)
  have HGLX : Hid (w.heap.size < gl) := Lib.hid (by simp at hgl; omega)
  have HL1 := Lib.hid hb1
  obtain ⟨ga, hga⟩ : ∃ ga, ga = w.heap.size := ⟨_, rfl⟩
  have HGA : Hid (ga ≤ w.heap.size) := Lib.hid (by omega)
  have HGE := Lib.hid hga
  rw [← hga] at HA1 HT HGLX ⊢
  clear hx1 hga hgl hb1
  go_wp2_with fail
  refine (namesX_any _).mono ?_
  rintro e w2 ⟨gn, rfl, hb2, hx2, hgn⟩
  have HC2 : Hid (CmdAt ga g gn ga w2 L l w a) := Lib.hid (by
    have hb := Below.mono (HX1.out.trans hx2) HGA.out
    have hlt := HA1.out.lt
    exact ⟨HT.out.below hb, (KB.refl ga g w).below hb, HA1.out.ext hx2, hb2, Nat.le_refl _, by omega⟩)
  have HL2 := Lib.hid (HL1.out.ext hx2)
  have HGL : Hid (g < gl) := Lib.hid (by have h1 := HT.out.lt; have h2 := HGLX.out; omega)
  clear hb2 hx2 hgn HA1 HX1 HGLX HL1 HT HGA
  go_upto_region 2 with fail
  go_cut [7, 8] from 12 to 25 (fun s7 s8 wx => ∃ (nm lb : List UInt8) (nb lv : ByteArray) (a' : Nat), s7 = .string nb ∧ s8 = .string lv ∧ str nm = .string nb ∧ str lb = .string lv ∧ nm.length ≤ 5 ∧ lb.length ≤ 5 ∧ CmdAt ga g gn ga wx L l w a' ∧ Hid (a' = nextA l (nextA l a)))
  case first =>
    have hr1 := nextV_range (l := l) (a := a) (n := 5) (by decide)
    have hr2 := nextV_range (l := l) (a := nextA l a) (n := 5) (by decide)
    have HND := Lib.hid (next_any ga g w2.drew L l a 5 HC2.out.tape.drew (by decide) (by decide))
    have HNE := Lib.hid (fun W ht => next_any ga g W L l (nextA l a) 5 ht (by decide) (by decide))
    generalize nextV l a 5 = p at *
    generalize nextV l (nextA l a) 5 = q at *
    obtain ⟨a2, ha2⟩ : ∃ a2, a2 = nextA l (nextA l a) := ⟨_, rfl⟩
    have HA2 := Lib.hid ha2
    rw [← ha2] at HNE
    generalize nextA l a = a1 at *
    clear ha2
    obtain ⟨p0, p1⟩ := hr1
    obtain ⟨q0, q1⟩ := hr2
    obtain ⟨nm, hln, hen, _, hnl⟩ := names_get p0 p1
    obtain ⟨lb, hll, hel, hlb⟩ := labels_get q0 q1
    obtain ⟨nb, hnb⟩ : ∃ nb, str nm = .string nb := ⟨_, rfl⟩
    obtain ⟨lv, hlv⟩ : ∃ lv, str lb = .string lv := ⟨_, rfl⟩
    have HFN : Hid (((names5.map str).toArray)[p.toNat]? = some (.string nb)) := Lib.hid (by rw [← hnb]; exact row_get (h := hln) hen)
    have HFL : Hid (((labels5.map str).toArray)[q.toNat]? = some (.string lv)) := Lib.hid (by rw [← hlv]; exact row_get (h := hll) hel)
    have HNB := Lib.hid hnb
    have HLV := Lib.hid hlv
    have HLN := Lib.hid (And.intro hnl hlb)
    clear hln hen hnl hll hel hlb hnb hlv
    have HCD : Hid (CmdAt ga g gn ga w2.drew L l w a) := Lib.hid (HC2.out.next HC2.out.tape.drew (fun B' => (KB.refl B' g w2).drewN 1))
    have HLD : Hid (Blk w2.drew gl 9 (labels5.map str).toArray) := Lib.hid HL2.out.drew
    go_region_with (first
      | (go_at_call 23; refine HND.out.mono ?_; rintro e w3 ⟨rfl, ht3, hk3⟩; have HT3 := Lib.hid ht3; have HC3 := Lib.hid (HCD.out.next ht3 hk3); have HL3 := Lib.hid ((hk3 w2.drew.heap.size).blk HLD.out HLD.out.lt (by have := HGL.out; omega)); have c3 := (HC3.out.row.cell p.toNat).trans HFN.out; clear ht3 hk3)
      | (go_at_call 23; refine (HNE.out _ HT3.out).mono ?_; rintro e w4 ⟨rfl, ht4, hk4⟩; have HC4 := Lib.hid (HC3.out.next ht4 hk4); have HL4 := Lib.hid ((hk4 _).blk HL3.out HL3.out.lt (by have := HGL.out; omega)); have c4 := (HC4.out.row.cell p.toNat).trans HFN.out; have d4 := (HL4.out.cell q.toNat).trans HFL.out; clear ht4 hk4))
    all_goals
      go_wp2_with fail
      go_meet
      exact ⟨nm, lb, nb, lv, _, rfl, rfl, HNB.out, HLV.out, HLN.out.1, HLN.out.2, HC4.out, HA2⟩
  case rest =>
  obtain ⟨nm, lb, nb, lv, a2, rfl, rfl, hnb, hlv, hnl, hll, hc, HA2⟩ := hcut
  have HNB := Lib.hid (And.intro hnb hlv)
  have HLN := Lib.hid (And.intro hnl hll)
  have HC5 := Lib.hid hc
  clear hnb hlv hnl hll hc HC2 HL2 HGL
  generalize wc = w5 at *
  go_wp2_with fail
  refine (next_any ga g w5 L l a2 26 HC5.out.tape (by decide) (by decide)).mono ?_
  rintro e w6 ⟨rfl, ht6, hk6⟩
  have HC6 := Lib.hid (HC5.out.next ht6 hk6)
  have key : nextV l a2 26 = 18 ∨ nextV l a2 26 = 19 ∨ nextV l a2 26 = 20 := by have := HKEY.out; rw [← HA2.out] at this; exact this
  clear HKEY HA2
  generalize nextV l a2 26 = x at *
  generalize nextA l a2 = a3 at *
  clear ht6 hk6 HC5
  rcases key with rfl | rfl | rfl
  · have z0 := HC6.out.blk.cell 0
    have z1 := HC6.out.blk.cell 1
    have z2 := HC6.out.blk.cell 2
    have z3 := HC6.out.blk.cell 3
    have z4 := HC6.out.blk.cell 4
    have y0 := HC6.out.blk.frozen 0
    have y1 := HC6.out.blk.frozen 1
    have y2 := HC6.out.blk.frozen 2
    have y3 := HC6.out.blk.frozen 3
    have y4 := HC6.out.blk.frozen 4
    have yz := HC6.out.blk.lt
    go_wp2_with fail
    obtain ⟨r0, r1, r2, r3, r4⟩ := five_set HC6.out.blk (.int .i64 13) (.string lv) (.string ⟨#[]⟩) (.string ⟨#[]⟩) (.int .i64 0)
    refine bodyPost_ret (v := .agg #[.int .i64 13, .string lv, .string ⟨#[]⟩, .string ⟨#[]⟩, .int .i64 0]) (by simp [results, Tryz.results10, go_sem, r0, r1, r2, r3, r4]) rfl ?_
    exact cmd_end HC6.out.tape HC6.out.kb HC6.out.low ⟨13, lb, [], [], 0⟩ (HLN.out.2) (Nat.zero_le _) (Nat.zero_le _) (by unfold cmdV; rw [HNB.out.2]; rfl) HGE.out
  · have z0 := HC6.out.blk.cell 0
    have z1 := HC6.out.blk.cell 1
    have z2 := HC6.out.blk.cell 2
    have z3 := HC6.out.blk.cell 3
    have z4 := HC6.out.blk.cell 4
    have y0 := HC6.out.blk.frozen 0
    have y1 := HC6.out.blk.frozen 1
    have y2 := HC6.out.blk.frozen 2
    have y3 := HC6.out.blk.frozen 3
    have y4 := HC6.out.blk.frozen 4
    have yz := HC6.out.blk.lt
    go_wp2_with fail
    obtain ⟨r0, r1, r2, r3, r4⟩ := five_set HC6.out.blk (.int .i64 14) (.string lv) (.string ⟨#[]⟩) (.string ⟨#[]⟩) (.int .i64 0)
    refine bodyPost_ret (v := .agg #[.int .i64 14, .string lv, .string ⟨#[]⟩, .string ⟨#[]⟩, .int .i64 0]) (by simp [results, Tryz.results10, go_sem, r0, r1, r2, r3, r4]) rfl ?_
    exact cmd_end HC6.out.tape HC6.out.kb HC6.out.low ⟨14, lb, [], [], 0⟩ (HLN.out.2) (Nat.zero_le _) (Nat.zero_le _) (by unfold cmdV; rw [HNB.out.2]; rfl) HGE.out
  · have z0 := HC6.out.blk.cell 0
    have z1 := HC6.out.blk.cell 1
    have z2 := HC6.out.blk.cell 2
    have z3 := HC6.out.blk.cell 3
    have z4 := HC6.out.blk.cell 4
    have y0 := HC6.out.blk.frozen 0
    have y1 := HC6.out.blk.frozen 1
    have y2 := HC6.out.blk.frozen 2
    have y3 := HC6.out.blk.frozen 3
    have y4 := HC6.out.blk.frozen 4
    have yz := HC6.out.blk.lt
    go_wp2_with fail
    obtain ⟨r0, r1, r2, r3, r4⟩ := five_set HC6.out.blk (.int .i64 16) (.string lv) (.string ⟨#[]⟩) (.string ⟨#[]⟩) (.int .i64 0)
    refine bodyPost_ret (v := .agg #[.int .i64 16, .string lv, .string ⟨#[]⟩, .string ⟨#[]⟩, .int .i64 0]) (by simp [results, Tryz.results10, go_sem, r0, r1, r2, r3, r4]) rfl ?_
    exact cmd_end HC6.out.tape HC6.out.kb HC6.out.low ⟨16, lb, [], [], 0⟩ (HLN.out.2) (Nat.zero_le _) (Nat.zero_le _) (by unfold cmdV; rw [HNB.out.2]; rfl) HGE.out
end Big
end Go.Proofs.YtoehdoghghpmjaaGreatDoor
/- mill.Command: some of its ways. -/
namespace Go.Proofs.YtoehdoghghpmjaaGreatDoor
namespace Big
open Go.RowKit
set_option maxHeartbeats 8000000 in
set_option maxRecDepth 100000 in
theorem command_h (w : World) (g : Nat) (L : Value) (l : List Int) (a : Nat) (P : Int) (h : TapeAt w.heap.size g w L l a) (_hP1 : 1 ≤ P) (_hP2 : P ≤ 1000000) (hkey : nextV l (nextA l (nextA l a)) 26 = 21 ∨ nextV l (nextA l (nextA l a)) 26 = 22) :
    Calls Tryz.prog 10 #[.pointer (some ⟨g, 0, none⟩), .int .i64 P] w (CmdPost w.heap.size g w L l) := by
  have HT := Lib.hid h
  have HKEY := Lib.hid hkey
  clear h hkey
  go_enter Tryz.func10, Tryz.ntmps10
  go_wp2_with fail
  refine (labels_any _).mono ?_
  rintro e w1 ⟨gl, rfl, hb1, hx1, hgl⟩
  have HA1 := Lib.hid ((Blk.new w 31 #[.int .i64 0, .string ⟨#[]⟩, .string ⟨#[]⟩, .string ⟨#[]⟩, .int .i64 0]).ext hx1)
  have HX1 : Hid (Ext w w1) := Lib.hid (((Ext.refl w).alloc _).trans hx1)
  have HGLX : Hid (w.heap.size < gl) := Lib.hid (by simp at hgl; omega)
  have HL1 := Lib.hid hb1
  obtain ⟨ga, hga⟩ : ∃ ga, ga = w.heap.size := ⟨_, rfl⟩
  have HGA : Hid (ga ≤ w.heap.size) := Lib.hid (by omega)
  have HGE := Lib.hid hga
  rw [← hga] at HA1 HT HGLX ⊢
  clear hx1 hga hgl hb1
  go_wp2_with fail
  refine (namesX_any _).mono ?_
  rintro e w2 ⟨gn, rfl, hb2, hx2, hgn⟩
  have HC2 : Hid (CmdAt ga g gn ga w2 L l w a) := Lib.hid (by
    have hb := Below.mono (HX1.out.trans hx2) HGA.out
    have hlt := HA1.out.lt
    exact ⟨HT.out.below hb, (KB.refl ga g w).below hb, HA1.out.ext hx2, hb2, Nat.le_refl _, by omega⟩)
  have HL2 := Lib.hid (HL1.out.ext hx2)
  have HGL : Hid (g < gl) := Lib.hid (by have h1 := HT.out.lt; have h2 := HGLX.out; omega)
  clear hb2 hx2 hgn HA1 HX1 HGLX HL1 HT HGA
  go_upto_region 2 with fail
  go_cut [7, 8] from 12 to 25 (fun s7 s8 wx => ∃ (nm lb : List UInt8) (nb lv : ByteArray) (a' : Nat), s7 = .string nb ∧ s8 = .string lv ∧ str nm = .string nb ∧ str lb = .string lv ∧ nm.length ≤ 5 ∧ lb.length ≤ 5 ∧ CmdAt ga g gn ga wx L l w a' ∧ Hid (a' = nextA l (nextA l a)))
  case first =>
    have hr1 := nextV_range (l := l) (a := a) (n := 5) (by decide)
    have hr2 := nextV_range (l := l) (a := nextA l a) (n := 5) (by decide)
    have HND := Lib.hid (next_any ga g w2.drew L l a 5 HC2.out.tape.drew (by decide) (by decide))
    have HNE := Lib.hid (fun W ht => next_any ga g W L l (nextA l a) 5 ht (by decide) (by decide))
    generalize nextV l a 5 = p at *
    generalize nextV l (nextA l a) 5 = q at *
    obtain ⟨a2, ha2⟩ : ∃ a2, a2 = nextA l (nextA l a) := ⟨_, rfl⟩
    have HA2 := Lib.hid ha2
    rw [← ha2] at HNE
    generalize nextA l a = a1 at *
    clear ha2
    obtain ⟨p0, p1⟩ := hr1
    obtain ⟨q0, q1⟩ := hr2
    obtain ⟨nm, hln, hen, _, hnl⟩ := names_get p0 p1
    obtain ⟨lb, hll, hel, hlb⟩ := labels_get q0 q1
    obtain ⟨nb, hnb⟩ : ∃ nb, str nm = .string nb := ⟨_, rfl⟩
    obtain ⟨lv, hlv⟩ : ∃ lv, str lb = .string lv := ⟨_, rfl⟩
    have HFN : Hid (((names5.map str).toArray)[p.toNat]? = some (.string nb)) := Lib.hid (by rw [← hnb]; exact row_get (h := hln) hen)
    have HFL : Hid (((labels5.map str).toArray)[q.toNat]? = some (.string lv)) := Lib.hid (by rw [← hlv]; exact row_get (h := hll) hel)
    have HNB := Lib.hid hnb
    have HLV := Lib.hid hlv
    have HLN := Lib.hid (And.intro hnl hlb)
    clear hln hen hnl hll hel hlb hnb hlv
    have HCD : Hid (CmdAt ga g gn ga w2.drew L l w a) := Lib.hid (HC2.out.next HC2.out.tape.drew (fun B' => (KB.refl B' g w2).drewN 1))
    have HLD : Hid (Blk w2.drew gl 9 (labels5.map str).toArray) := Lib.hid HL2.out.drew
    go_region_with (first
      | (go_at_call 23; refine HND.out.mono ?_; rintro e w3 ⟨rfl, ht3, hk3⟩; have HT3 := Lib.hid ht3; have HC3 := Lib.hid (HCD.out.next ht3 hk3); have HL3 := Lib.hid ((hk3 w2.drew.heap.size).blk HLD.out HLD.out.lt (by have := HGL.out; omega)); have c3 := (HC3.out.row.cell p.toNat).trans HFN.out; clear ht3 hk3)
      | (go_at_call 23; refine (HNE.out _ HT3.out).mono ?_; rintro e w4 ⟨rfl, ht4, hk4⟩; have HC4 := Lib.hid (HC3.out.next ht4 hk4); have HL4 := Lib.hid ((hk4 _).blk HL3.out HL3.out.lt (by have := HGL.out; omega)); have c4 := (HC4.out.row.cell p.toNat).trans HFN.out; have d4 := (HL4.out.cell q.toNat).trans HFL.out; clear ht4 hk4))
    all_goals
      go_wp2_with fail
      go_meet
      exact ⟨nm, lb, nb, lv, _, rfl, rfl, HNB.out, HLV.out, HLN.out.1, HLN.out.2, HC4.out, HA2⟩
  case rest =>
  obtain ⟨nm, lb, nb, lv, a2, rfl, rfl, hnb, hlv, hnl, hll, hc, HA2⟩ := hcut
  have HNB := Lib.hid (And.intro hnb hlv)
  have HLN := Lib.hid (And.intro hnl hll)
  have HC5 := Lib.hid hc
  clear hnb hlv hnl hll hc HC2 HL2 HGL
  generalize wc = w5 at *
  go_wp2_with fail
  refine (next_any ga g w5 L l a2 26 HC5.out.tape (by decide) (by decide)).mono ?_
  rintro e w6 ⟨rfl, ht6, hk6⟩
  have HC6 := Lib.hid (HC5.out.next ht6 hk6)
  have key : nextV l a2 26 = 21 ∨ nextV l a2 26 = 22 := by have := HKEY.out; rw [← HA2.out] at this; exact this
  clear HKEY HA2
  generalize nextV l a2 26 = x at *
  generalize nextA l a2 = a3 at *
  clear ht6 hk6 HC5
  rcases key with rfl | rfl
  · have z0 := HC6.out.blk.cell 0
    have z1 := HC6.out.blk.cell 1
    have z2 := HC6.out.blk.cell 2
    have z3 := HC6.out.blk.cell 3
    have z4 := HC6.out.blk.cell 4
    have y0 := HC6.out.blk.frozen 0
    have y1 := HC6.out.blk.frozen 1
    have y2 := HC6.out.blk.frozen 2
    have y3 := HC6.out.blk.frozen 3
    have y4 := HC6.out.blk.frozen 4
    have yz := HC6.out.blk.lt
    go_wp2_with fail
    obtain ⟨r0, r1, r2, r3, r4⟩ := five_set HC6.out.blk (.int .i64 17) (.string lv) (.string ⟨#[]⟩) (.string ⟨#[]⟩) (.int .i64 0)
    refine bodyPost_ret (v := .agg #[.int .i64 17, .string lv, .string ⟨#[]⟩, .string ⟨#[]⟩, .int .i64 0]) (by simp [results, Tryz.results10, go_sem, r0, r1, r2, r3, r4]) rfl ?_
    exact cmd_end HC6.out.tape HC6.out.kb HC6.out.low ⟨17, lb, [], [], 0⟩ (HLN.out.2) (Nat.zero_le _) (Nat.zero_le _) (by unfold cmdV; rw [HNB.out.2]; rfl) HGE.out
  · have HN7 := Blk.new w6 3 #[.int .i64 18, .int .i64 20]
    have HXA := Lib.hid (HC6.out.ext ((Ext.refl w6).alloc (.cells #[.int .i64 18, .int .i64 20] 3)))
    have HNX := Lib.hid (next_any ga g (w6.alloc (.cells #[.int .i64 18, .int .i64 20] 3)) L l a3 2 HXA.out.tape (by decide) (by decide))
    have HRW := Lib.hid HN7
    have HGW : Hid (w6.heap.size ≠ g) := Lib.hid (by have h1 := HC6.out.tape.lt; have h2 := HC6.out.blk.lt; have h3 := HC6.out.low; omega)
    clear HN7
    go_wp2_with fail
    refine HNX.out.mono ?_
    rintro e w7 ⟨rfl, ht7, hk7⟩
    have HC7 := Lib.hid (HXA.out.next ht7 hk7)
    have HR7 := (hk7 (w6.heap.size + 1)).blk HRW.out (by omega) HGW.out
    have hr := nextV_range (l := l) (a := a3) (n := 2) (by decide)
    generalize nextV l a3 2 = p at *
    generalize nextA l a3 = a4 at *
    obtain ⟨p0, p1⟩ := hr
    have hz : ∃ z : Int, (#[.int .i64 18, .int .i64 20] : Array Value)[p.toNat]? = some (.int .i64 z) := by
      obtain ⟨n, rfl⟩ := Int.eq_ofNat_of_zero_le p0
      have hn : n < 2 := by omega
      rw [Int.toNat_natCast]
      exact (show ∀ k : Fin 2, ∃ z : Int, (#[.int .i64 18, .int .i64 20] : Array Value)[k.val]? = some (.int .i64 z) by
        intro k
        match k with
        | ⟨0, _⟩ => exact ⟨_, rfl⟩
        | ⟨1, _⟩ => exact ⟨_, rfl⟩) ⟨n, hn⟩
    obtain ⟨z, hz⟩ := hz
    have c7 := (HR7.cell p.toNat).trans hz
    clear ht7 hk7 HC6 HXA HNX HRW HGW HR7 hz
    generalize w6.heap.size = gw at *
    have z0 := HC7.out.blk.cell 0
    have z1 := HC7.out.blk.cell 1
    have z2 := HC7.out.blk.cell 2
    have z3 := HC7.out.blk.cell 3
    have z4 := HC7.out.blk.cell 4
    have y0 := HC7.out.blk.frozen 0
    have y1 := HC7.out.blk.frozen 1
    have y2 := HC7.out.blk.frozen 2
    have y3 := HC7.out.blk.frozen 3
    have y4 := HC7.out.blk.frozen 4
    have yz := HC7.out.blk.lt
    go_wp2_with fail
    obtain ⟨r0, r1, r2, r3, r4⟩ := five_set HC7.out.blk (.int .i64 z) (.string lv) (.string ⟨#[]⟩) (.string ⟨#[]⟩) (.int .i64 0)
    refine bodyPost_ret (v := .agg #[.int .i64 z, .string lv, .string ⟨#[]⟩, .string ⟨#[]⟩, .int .i64 0]) (by simp [results, Tryz.results10, go_sem, r0, r1, r2, r3, r4]) rfl ?_
    exact cmd_end HC7.out.tape HC7.out.kb HC7.out.low ⟨z, lb, [], [], 0⟩ (HLN.out.2) (Nat.zero_le _) (Nat.zero_le _) (by unfold cmdV; rw [HNB.out.2]; rfl) HGE.out
end Big
end Go.Proofs.YtoehdoghghpmjaaGreatDoor
/- mill.Command: some of its ways. -/
namespace Go.Proofs.YtoehdoghghpmjaaGreatDoor
namespace Big
open Go.RowKit
set_option maxHeartbeats 8000000 in
set_option maxRecDepth 100000 in
theorem command_i (w : World) (g : Nat) (L : Value) (l : List Int) (a : Nat) (P : Int) (h : TapeAt w.heap.size g w L l a) (_hP1 : 1 ≤ P) (_hP2 : P ≤ 1000000) (hkey : nextV l (nextA l (nextA l a)) 26 = 23 ∨ nextV l (nextA l (nextA l a)) 26 = 24 ∨ nextV l (nextA l (nextA l a)) 26 = 25) :
    Calls Tryz.prog 10 #[.pointer (some ⟨g, 0, none⟩), .int .i64 P] w (CmdPost w.heap.size g w L l) := by
  have HT := Lib.hid h
  have HKEY := Lib.hid hkey
  clear h hkey
  go_enter Tryz.func10, Tryz.ntmps10
  go_wp2_with fail
  refine (labels_any _).mono ?_
  rintro e w1 ⟨gl, rfl, hb1, hx1, hgl⟩
  have HA1 := Lib.hid ((Blk.new w 31 #[.int .i64 0, .string ⟨#[]⟩, .string ⟨#[]⟩, .string ⟨#[]⟩, .int .i64 0]).ext hx1)
  have HX1 : Hid (Ext w w1) := Lib.hid (((Ext.refl w).alloc _).trans hx1)
  have HGLX : Hid (w.heap.size < gl) := Lib.hid (by simp at hgl; omega)
  have HL1 := Lib.hid hb1
  obtain ⟨ga, hga⟩ : ∃ ga, ga = w.heap.size := ⟨_, rfl⟩
  have HGA : Hid (ga ≤ w.heap.size) := Lib.hid (by omega)
  have HGE := Lib.hid hga
  rw [← hga] at HA1 HT HGLX ⊢
  clear hx1 hga hgl hb1
  go_wp2_with fail
  refine (namesX_any _).mono ?_
  rintro e w2 ⟨gn, rfl, hb2, hx2, hgn⟩
  have HC2 : Hid (CmdAt ga g gn ga w2 L l w a) := Lib.hid (by
    have hb := Below.mono (HX1.out.trans hx2) HGA.out
    have hlt := HA1.out.lt
    exact ⟨HT.out.below hb, (KB.refl ga g w).below hb, HA1.out.ext hx2, hb2, Nat.le_refl _, by omega⟩)
  have HL2 := Lib.hid (HL1.out.ext hx2)
  have HGL : Hid (g < gl) := Lib.hid (by have h1 := HT.out.lt; have h2 := HGLX.out; omega)
  clear hb2 hx2 hgn HA1 HX1 HGLX HL1 HT HGA
  go_upto_region 2 with fail
  go_cut [7, 8] from 12 to 25 (fun s7 s8 wx => ∃ (nm lb : List UInt8) (nb lv : ByteArray) (a' : Nat), s7 = .string nb ∧ s8 = .string lv ∧ str nm = .string nb ∧ str lb = .string lv ∧ nm.length ≤ 5 ∧ lb.length ≤ 5 ∧ CmdAt ga g gn ga wx L l w a' ∧ Hid (a' = nextA l (nextA l a)))
  case first =>
    have hr1 := nextV_range (l := l) (a := a) (n := 5) (by decide)
    have hr2 := nextV_range (l := l) (a := nextA l a) (n := 5) (by decide)
    have HND := Lib.hid (next_any ga g w2.drew L l a 5 HC2.out.tape.drew (by decide) (by decide))
    have HNE := Lib.hid (fun W ht => next_any ga g W L l (nextA l a) 5 ht (by decide) (by decide))
    generalize nextV l a 5 = p at *
    generalize nextV l (nextA l a) 5 = q at *
    obtain ⟨a2, ha2⟩ : ∃ a2, a2 = nextA l (nextA l a) := ⟨_, rfl⟩
    have HA2 := Lib.hid ha2
    rw [← ha2] at HNE
    generalize nextA l a = a1 at *
    clear ha2
    obtain ⟨p0, p1⟩ := hr1
    obtain ⟨q0, q1⟩ := hr2
    obtain ⟨nm, hln, hen, _, hnl⟩ := names_get p0 p1
    obtain ⟨lb, hll, hel, hlb⟩ := labels_get q0 q1
    obtain ⟨nb, hnb⟩ : ∃ nb, str nm = .string nb := ⟨_, rfl⟩
    obtain ⟨lv, hlv⟩ : ∃ lv, str lb = .string lv := ⟨_, rfl⟩
    have HFN : Hid (((names5.map str).toArray)[p.toNat]? = some (.string nb)) := Lib.hid (by rw [← hnb]; exact row_get (h := hln) hen)
    have HFL : Hid (((labels5.map str).toArray)[q.toNat]? = some (.string lv)) := Lib.hid (by rw [← hlv]; exact row_get (h := hll) hel)
    have HNB := Lib.hid hnb
    have HLV := Lib.hid hlv
    have HLN := Lib.hid (And.intro hnl hlb)
    clear hln hen hnl hll hel hlb hnb hlv
    have HCD : Hid (CmdAt ga g gn ga w2.drew L l w a) := Lib.hid (HC2.out.next HC2.out.tape.drew (fun B' => (KB.refl B' g w2).drewN 1))
    have HLD : Hid (Blk w2.drew gl 9 (labels5.map str).toArray) := Lib.hid HL2.out.drew
    go_region_with (first
      | (go_at_call 23; refine HND.out.mono ?_; rintro e w3 ⟨rfl, ht3, hk3⟩; have HT3 := Lib.hid ht3; have HC3 := Lib.hid (HCD.out.next ht3 hk3); have HL3 := Lib.hid ((hk3 w2.drew.heap.size).blk HLD.out HLD.out.lt (by have := HGL.out; omega)); have c3 := (HC3.out.row.cell p.toNat).trans HFN.out; clear ht3 hk3)
      | (go_at_call 23; refine (HNE.out _ HT3.out).mono ?_; rintro e w4 ⟨rfl, ht4, hk4⟩; have HC4 := Lib.hid (HC3.out.next ht4 hk4); have HL4 := Lib.hid ((hk4 _).blk HL3.out HL3.out.lt (by have := HGL.out; omega)); have c4 := (HC4.out.row.cell p.toNat).trans HFN.out; have d4 := (HL4.out.cell q.toNat).trans HFL.out; clear ht4 hk4))
    all_goals
      go_wp2_with fail
      go_meet
      exact ⟨nm, lb, nb, lv, _, rfl, rfl, HNB.out, HLV.out, HLN.out.1, HLN.out.2, HC4.out, HA2⟩
  case rest =>
  obtain ⟨nm, lb, nb, lv, a2, rfl, rfl, hnb, hlv, hnl, hll, hc, HA2⟩ := hcut
  have HNB := Lib.hid (And.intro hnb hlv)
  have HLN := Lib.hid (And.intro hnl hll)
  have HC5 := Lib.hid hc
  clear hnb hlv hnl hll hc HC2 HL2 HGL
  generalize wc = w5 at *
  go_wp2_with fail
  refine (next_any ga g w5 L l a2 26 HC5.out.tape (by decide) (by decide)).mono ?_
  rintro e w6 ⟨rfl, ht6, hk6⟩
  have HC6 := Lib.hid (HC5.out.next ht6 hk6)
  have key : nextV l a2 26 = 23 ∨ nextV l a2 26 = 24 ∨ nextV l a2 26 = 25 := by have := HKEY.out; rw [← HA2.out] at this; exact this
  clear HKEY HA2
  generalize nextV l a2 26 = x at *
  generalize nextA l a2 = a3 at *
  clear ht6 hk6 HC5
  rcases key with rfl | rfl | rfl
  · have HN7 := Blk.new w6 3 #[.int .i64 5, .int .i64 15, .int .i64 19]
    have HXA := Lib.hid (HC6.out.ext ((Ext.refl w6).alloc (.cells #[.int .i64 5, .int .i64 15, .int .i64 19] 3)))
    have HNX := Lib.hid (next_any ga g (w6.alloc (.cells #[.int .i64 5, .int .i64 15, .int .i64 19] 3)) L l a3 3 HXA.out.tape (by decide) (by decide))
    have HRW := Lib.hid HN7
    have HGW : Hid (w6.heap.size ≠ g) := Lib.hid (by have h1 := HC6.out.tape.lt; have h2 := HC6.out.blk.lt; have h3 := HC6.out.low; omega)
    clear HN7
    go_wp2_with fail
    refine HNX.out.mono ?_
    rintro e w7 ⟨rfl, ht7, hk7⟩
    have HC7 := Lib.hid (HXA.out.next ht7 hk7)
    have HR7 := (hk7 (w6.heap.size + 1)).blk HRW.out (by omega) HGW.out
    have hr := nextV_range (l := l) (a := a3) (n := 3) (by decide)
    generalize nextV l a3 3 = p at *
    generalize nextA l a3 = a4 at *
    obtain ⟨p0, p1⟩ := hr
    have hz : ∃ z : Int, (#[.int .i64 5, .int .i64 15, .int .i64 19] : Array Value)[p.toNat]? = some (.int .i64 z) := by
      obtain ⟨n, rfl⟩ := Int.eq_ofNat_of_zero_le p0
      have hn : n < 3 := by omega
      rw [Int.toNat_natCast]
      exact (show ∀ k : Fin 3, ∃ z : Int, (#[.int .i64 5, .int .i64 15, .int .i64 19] : Array Value)[k.val]? = some (.int .i64 z) by
        intro k
        match k with
        | ⟨0, _⟩ => exact ⟨_, rfl⟩
        | ⟨1, _⟩ => exact ⟨_, rfl⟩
        | ⟨2, _⟩ => exact ⟨_, rfl⟩) ⟨n, hn⟩
    obtain ⟨z, hz⟩ := hz
    have c7 := (HR7.cell p.toNat).trans hz
    clear ht7 hk7 HC6 HXA HNX HRW HGW HR7 hz
    generalize w6.heap.size = gw at *
    have z0 := HC7.out.blk.cell 0
    have z1 := HC7.out.blk.cell 1
    have z2 := HC7.out.blk.cell 2
    have z3 := HC7.out.blk.cell 3
    have z4 := HC7.out.blk.cell 4
    have y0 := HC7.out.blk.frozen 0
    have y1 := HC7.out.blk.frozen 1
    have y2 := HC7.out.blk.frozen 2
    have y3 := HC7.out.blk.frozen 3
    have y4 := HC7.out.blk.frozen 4
    have yz := HC7.out.blk.lt
    go_wp2_with fail
    obtain ⟨r0, r1, r2, r3, r4⟩ := five_set HC7.out.blk (.int .i64 z) (.string ⟨#[]⟩) (.string ⟨#[]⟩) (.string ⟨#[]⟩) (.int .i64 0)
    refine bodyPost_ret (v := .agg #[.int .i64 z, .string ⟨#[]⟩, .string ⟨#[]⟩, .string ⟨#[]⟩, .int .i64 0]) (by simp [results, Tryz.results10, go_sem, r0, r1, r2, r3, r4]) rfl ?_
    exact cmd_end HC7.out.tape HC7.out.kb HC7.out.low ⟨z, [], [], [], 0⟩ (Nat.zero_le _) (Nat.zero_le _) (Nat.zero_le _) (rfl) HGE.out
  · have HN7 := Blk.new w6 3 #[.int .i64 40, .int .i64 100, .int .i64 200, .int .i64 20]
    have HXA := Lib.hid (HC6.out.ext ((Ext.refl w6).alloc (.cells #[.int .i64 40, .int .i64 100, .int .i64 200, .int .i64 20] 3)))
    have HNX := Lib.hid (next_any ga g (w6.alloc (.cells #[.int .i64 40, .int .i64 100, .int .i64 200, .int .i64 20] 3)) L l a3 4 HXA.out.tape (by decide) (by decide))
    have HRW := Lib.hid HN7
    have HGW : Hid (w6.heap.size ≠ g) := Lib.hid (by have h1 := HC6.out.tape.lt; have h2 := HC6.out.blk.lt; have h3 := HC6.out.low; omega)
    clear HN7
    go_wp2_with fail
    refine HNX.out.mono ?_
    rintro e w7 ⟨rfl, ht7, hk7⟩
    have HC7 := Lib.hid (HXA.out.next ht7 hk7)
    have HR7 := (hk7 (w6.heap.size + 1)).blk HRW.out (by omega) HGW.out
    have hr := nextV_range (l := l) (a := a3) (n := 4) (by decide)
    generalize nextV l a3 4 = p at *
    generalize nextA l a3 = a4 at *
    obtain ⟨p0, p1⟩ := hr
    have hz : ∃ z : Int, (#[.int .i64 40, .int .i64 100, .int .i64 200, .int .i64 20] : Array Value)[p.toNat]? = some (.int .i64 z) := by
      obtain ⟨n, rfl⟩ := Int.eq_ofNat_of_zero_le p0
      have hn : n < 4 := by omega
      rw [Int.toNat_natCast]
      exact (show ∀ k : Fin 4, ∃ z : Int, (#[.int .i64 40, .int .i64 100, .int .i64 200, .int .i64 20] : Array Value)[k.val]? = some (.int .i64 z) by
        intro k
        match k with
        | ⟨0, _⟩ => exact ⟨_, rfl⟩
        | ⟨1, _⟩ => exact ⟨_, rfl⟩
        | ⟨2, _⟩ => exact ⟨_, rfl⟩
        | ⟨3, _⟩ => exact ⟨_, rfl⟩) ⟨n, hn⟩
    obtain ⟨z, hz⟩ := hz
    have c7 := (HR7.cell p.toNat).trans hz
    clear ht7 hk7 HC6 HXA HNX HRW HGW HR7 hz
    generalize w6.heap.size = gw at *
    have z0 := HC7.out.blk.cell 0
    have z1 := HC7.out.blk.cell 1
    have z2 := HC7.out.blk.cell 2
    have z3 := HC7.out.blk.cell 3
    have z4 := HC7.out.blk.cell 4
    have y0 := HC7.out.blk.frozen 0
    have y1 := HC7.out.blk.frozen 1
    have y2 := HC7.out.blk.frozen 2
    have y3 := HC7.out.blk.frozen 3
    have y4 := HC7.out.blk.frozen 4
    have yz := HC7.out.blk.lt
    go_wp2_with fail
    obtain ⟨r0, r1, r2, r3, r4⟩ := five_set HC7.out.blk (.int .i64 21) (.string ⟨#[]⟩) (.string ⟨#[]⟩) (.string ⟨#[]⟩) (.int .i64 z)
    refine bodyPost_ret (v := .agg #[.int .i64 21, .string ⟨#[]⟩, .string ⟨#[]⟩, .string ⟨#[]⟩, .int .i64 z]) (by simp [results, Tryz.results10, go_sem, r0, r1, r2, r3, r4]) rfl ?_
    exact cmd_end HC7.out.tape HC7.out.kb HC7.out.low ⟨21, [], [], [], z⟩ (Nat.zero_le _) (Nat.zero_le _) (Nat.zero_le _) (rfl) HGE.out
  · have z0 := HC6.out.blk.cell 0
    have z1 := HC6.out.blk.cell 1
    have z2 := HC6.out.blk.cell 2
    have z3 := HC6.out.blk.cell 3
    have z4 := HC6.out.blk.cell 4
    have y0 := HC6.out.blk.frozen 0
    have y1 := HC6.out.blk.frozen 1
    have y2 := HC6.out.blk.frozen 2
    have y3 := HC6.out.blk.frozen 3
    have y4 := HC6.out.blk.frozen 4
    have yz := HC6.out.blk.lt
    go_wp2_with fail
    obtain ⟨r0, r1, r2, r3, r4⟩ := five_set HC6.out.blk (.int .i64 20) (.string lv) (.string ⟨#[]⟩) (.string ⟨#[]⟩) (.int .i64 0)
    refine bodyPost_ret (v := .agg #[.int .i64 20, .string lv, .string ⟨#[]⟩, .string ⟨#[]⟩, .int .i64 0]) (by simp [results, Tryz.results10, go_sem, r0, r1, r2, r3, r4]) rfl ?_
    exact cmd_end HC6.out.tape HC6.out.kb HC6.out.low ⟨20, lb, [], [], 0⟩ (HLN.out.2) (Nat.zero_le _) (Nat.zero_le _) (by unfold cmdV; rw [HNB.out.2]; rfl) HGE.out
end Big
end Go.Proofs.YtoehdoghghpmjaaGreatDoor
/- mill.Command. -/
namespace Go.Proofs.YtoehdoghghpmjaaGreatDoor
namespace Big
open Go.RowKit
theorem command_any (w : World) (g : Nat) (L : Value) (l : List Int) (a : Nat) (P : Int) (h : TapeAt w.heap.size g w L l a) (hP1 : 1 ≤ P) (hP2 : P ≤ 1000000) :
    Calls Tryz.prog 10 #[.pointer (some ⟨g, 0, none⟩), .int .i64 P] w (CmdPost w.heap.size g w L l) := by
  have hr := nextV_range (l := l) (a := nextA l (nextA l a)) (n := 26) (by decide)
  have key : (nextV l (nextA l (nextA l a)) 26 = 0 ∨ nextV l (nextA l (nextA l a)) 26 = 1) ∨ (nextV l (nextA l (nextA l a)) 26 = 2 ∨ nextV l (nextA l (nextA l a)) 26 = 3) ∨ (nextV l (nextA l (nextA l a)) 26 = 4 ∨ nextV l (nextA l (nextA l a)) 26 = 5 ∨ nextV l (nextA l (nextA l a)) 26 = 6) ∨ (nextV l (nextA l (nextA l a)) 26 = 7 ∨ nextV l (nextA l (nextA l a)) 26 = 8 ∨ nextV l (nextA l (nextA l a)) 26 = 9 ∨ nextV l (nextA l (nextA l a)) 26 = 10) ∨ (nextV l (nextA l (nextA l a)) 26 = 11 ∨ nextV l (nextA l (nextA l a)) 26 = 12 ∨ nextV l (nextA l (nextA l a)) 26 = 13) ∨ (nextV l (nextA l (nextA l a)) 26 = 14 ∨ nextV l (nextA l (nextA l a)) 26 = 15 ∨ nextV l (nextA l (nextA l a)) 26 = 16 ∨ nextV l (nextA l (nextA l a)) 26 = 17) ∨ (nextV l (nextA l (nextA l a)) 26 = 18 ∨ nextV l (nextA l (nextA l a)) 26 = 19 ∨ nextV l (nextA l (nextA l a)) 26 = 20) ∨ (nextV l (nextA l (nextA l a)) 26 = 21 ∨ nextV l (nextA l (nextA l a)) 26 = 22) ∨ (nextV l (nextA l (nextA l a)) 26 = 23 ∨ nextV l (nextA l (nextA l a)) 26 = 24 ∨ nextV l (nextA l (nextA l a)) 26 = 25) := by omega
  rcases key with h0 | h1 | h2 | h3 | h4 | h5 | h6 | h7 | h8
  · exact command_a w g L l a P h hP1 hP2 h0
  · exact command_b w g L l a P h hP1 hP2 h1
  · exact command_c w g L l a P h hP1 hP2 h2
  · exact command_d w g L l a P h hP1 hP2 h3
  · exact command_e w g L l a P h hP1 hP2 h4
  · exact command_f w g L l a P h hP1 hP2 h5
  · exact command_g w g L l a P h hP1 hP2 h6
  · exact command_h w g L l a P h hP1 hP2 h7
  · exact command_i w g L l a P h hP1 hP2 h8
end Big
end Go.Proofs.YtoehdoghghpmjaaGreatDoor
