import Derived.Test.YtoehdoghghpmjaaGreatDoorM27
import Derived.Test.YtoehdoghghpmjaaGreatDoorM23
import Derived.Test.YtoehdoghghpmjaaGreatDoorM22
import Derived.Deep.RegionWith
/- ref19.Valid; ref20.Format at good trees; mill.Text. -/
namespace Go.Proofs.YtoehdoghghpmjaaGreatDoor
namespace Big
open Go.RowKit
set_option maxRecDepth 100000 in
theorem valid_any (w : World) (v : Value) (l : List Nd) (hr : RNd w v l) (hl : l.length ≤ 1000000) (htx : ∀ x ∈ l, x.text.length ≤ 1073741824) : Calls Tryz.prog 46 #[v] w fun e w' => e = .returned (.bool (validB l)) ∧ Ext w w' := by
  have HS := Lib.hid (sizes_any w v l hr hl htx)
  have HV : Hid (validB l = (decide (1 ≤ l.length ∧ l.length ≤ 200) && match szAll l with | none => false | some (_, D) => decide (D.getD (l.length - 1) 0 ≤ 40))) := Lib.hid rfl
  obtain ⟨A, c, rfl, _⟩ := hr
  generalize validB l = r at *
  clear htx
  obtain ⟨n, hn⟩ : ∃ n, n = l.length := ⟨_, rfl⟩
  have HN := Lib.hid hn
  rw [← hn] at hl HV HS ⊢
  clear hn
  by_cases h1 : n < 1
  · obtain rfl : n = 0 := by omega
    clear HS h1
    go_enter Tryz.func46, Tryz.ntmps46
    go_wp2_with fail
    go_ret
    exact ⟨by rw [HV.out]; rfl, Ext.refl w⟩
  · have h1b : decide ((n : Int) < 1) = false := decide_eq_false (by omega)
    have h1c : ¬ ((n : Int) < 1) := by omega
    by_cases h2 : 200 < n
    · have h2b : decide ((n : Int) > 200) = true := decide_eq_true (by omega)
      have h2c : (200 : Int) < (n : Int) := by omega
      have hd : decide (1 ≤ n ∧ n ≤ 200) = false := decide_eq_false (by omega)
      rw [hd] at HV
      clear HS h1 h2 hd
      go_enter Tryz.func46, Tryz.ntmps46
      go_wp2_with fail
      go_ret
      exact ⟨by rw [HV.out]; rfl, Ext.refl w⟩
    · have h2b : decide ((n : Int) > 200) = false := decide_eq_false (by omega)
      have h2c : ¬ (200 : Int) < (n : Int) := by omega
      have hd : decide (1 ≤ n ∧ n ≤ 200) = true := decide_eq_true (by omega)
      rw [hd, Bool.true_and] at HV
      have h1n : 1 ≤ n := by omega
      clear h1 h2 hd
      go_enter Tryz.func46, Tryz.ntmps46
      go_wp2_with fail
      refine HS.out.mono ?_
      rintro e w1 ⟨v1, v2, rfl, hx, hp⟩
      have HX := Lib.hid hx
      clear hx
      rcases hp with ⟨hs, rfl, rfl⟩ | ⟨S, D, hs, hsl, hdl, h4, h5⟩
      · rw [hs] at HV
        clear hs
        go_wp2_with fail
        go_ret
        exact ⟨by rw [HV.out]; rfl, HX.out⟩
      · rw [hs] at HV
        have HV2 : Hid (r = decide (D.getD (n - 1) 0 ≤ 40)) := Lib.hid HV.out
        clear HV
        obtain ⟨A4, c4, rfl, _⟩ := h4.open
        obtain ⟨A5, c5, rfl, h6⟩ := h5.open
        rw [← HN.out] at hsl hdl
        rw [hdl] at h6
        obtain ⟨g5, o5, rfl, _, h7⟩ := h6 (by omega)
        have h8 := h7 (n - 1) (by omega)
        obtain ⟨y, hy⟩ : ∃ y : Int, y = (n : Int) - 1 := ⟨_, rfl⟩
        have hj : y.toNat = n - 1 := by omega
        rw [← hj] at h8 HV2
        have hw : IntKind.i64.wrap ((n : Int) - 1) = y := by rw [IntWalk.i64_in _ (by omega), hy]
        have hq0 : (0 : Int) ≤ y := by omega
        have hq1 : y < (n : Int) := by omega
        generalize D.getD y.toNat 0 = dv at *
        have hs0 : (0 : Int) < (n : Int) := by omega
        have hdv : decide (dv ≤ 40) = decide ((dv : Int) ≤ 40) := by rw [decide_eq_decide]; omega
        have HDV := Lib.hid hdv
        rw [hsl, hdl]
        clear hs h4 h5 h6 h7 hj hy hdv hsl hdl
        go_wp2_with fail
        go_ret
        exact ⟨by rw [HV2.out, HDV.out]; rfl, HX.out⟩
theorem flat_text (e : Ex) (hg : e.Good) : ∀ off, ∀ x ∈ flat off e, x.text.length ≤ 1073741824 := by
  induction e with
  | leaf k t =>
    intro off x hx
    rw [flat, List.mem_singleton] at hx
    subst hx
    rcases hg with ⟨_, _, h⟩ | ⟨_, h⟩ | ⟨_, rfl⟩
    · simp only; omega
    · have := wordB_le (Bool.and_eq_true_iff.1 h).1
      simp only; omega
    · simp
  | un k n x ih =>
    intro off y hy
    rw [flat, List.mem_append, List.mem_singleton] at hy
    rcases hy with hy | rfl
    · exact ih hg.2.2.2.2 off y hy
    · simp
  | bin k x z ihx ihy =>
    intro off y hy
    rw [flat, List.mem_append, List.mem_append, List.mem_singleton] at hy
    rcases hy with hy | hy | rfl
    · exact ihx hg.2.1 _ y hy
    · exact ihy hg.2.2 _ y hy
    · simp
theorem AtEx.whole (e : Ex) : AtEx (flat 0 e) (e.size - 1) e := ⟨[], [], by simp, by have := e.size_pos; simp; omega⟩
set_option maxRecDepth 100000 in
theorem format20_any (w : World) (v : Value) (e : Ex) (hr : RNd w v (flat 0 e)) (hg : e.Good) (hs : e.size ≤ 200) (hd : e.depth ≤ 40) : Calls Tryz.prog 26 #[v] w fun r w' => r = .returned (str (nodeT fmtI e)) ∧ Ext w w' := by
  have hlen := flat_len e 0
  have HV := Lib.hid (valid_any w v (flat 0 e) hr (by omega) (flat_text e hg 0))
  rw [validB_flat e hg, decide_eq_true (And.intro hs hd)] at HV
  have HNO := Lib.hid (fun W h => node_any (flat 0 e) (by omega) e hg (by omega) W v (e.size - 1) ((e.size - 1 : Nat) : Int) h (AtEx.whole e) rfl)
  have HR := Lib.hid hr
  obtain ⟨A, c, rfl, _⟩ := hr
  have hz := e.size_pos
  have hj : ((e.size - 1 : Nat) : Int) = (e.size : Int) - 1 := by omega
  have hw : IntKind.i64.wrap ((e.size : Int) - 1) = (e.size : Int) - 1 := IntWalk.i64_in _ (by omega)
  rw [hj] at HNO
  rw [hlen] at HV HNO HR ⊢
  generalize e.size = n at *
  generalize nodeT fmtI e = s at *
  clear hlen hg hs hd hz hj
  go_enter Tryz.func26, Tryz.ntmps26
  go_wp2_with fail
  refine HV.out.mono ?_
  rintro r w1 ⟨rfl, hx1⟩
  have HX1 := Lib.hid hx1
  clear hx1
  go_wp2_with fail
  refine (HNO.out _ (HR.out.ext HX1.out)).mono ?_
  rintro r w2 ⟨rfl, hx2⟩
  have HX2 := Lib.hid (HX1.out.trans hx2)
  clear hx2
  go_wp2_with fail
  go_ret
  exact ⟨rfl, HX2.out⟩
/-- The text that mill.Text returns: the tree's, in one of three ways. -/
def wayT (m : Int) (s : List UInt8) : List UInt8 := if m = 0 then 40 :: (s ++ [41]) else if m = 1 then 32 :: (s ++ [32, 32]) else s
theorem wayT_len (m : Int) (s : List UInt8) : (wayT m s).length ≤ s.length + 3 := by
  unfold wayT
  split
  · simp
  · split <;> simp
end Big
end Go.Proofs.YtoehdoghghpmjaaGreatDoor
/- mill.labels, Command. -/
namespace Go.Proofs.YtoehdoghghpmjaaGreatDoor
namespace Big
open Go.RowKit
def labels5 : List (List UInt8) := [[109, 97, 105, 110], [100, 101, 118], [111, 108, 100], [122, 57], [116, 109, 112]]
theorem labels_any (w : World) : Calls Tryz.prog 21 #[] w fun e w' => ∃ gl, e = .returned (.slice (some ⟨gl, 0, none⟩) 5 5) ∧ Blk w' gl 9 (labels5.map str).toArray ∧ Ext w w' ∧ w.heap.size ≤ gl := by
  go_enter Tryz.func21, Tryz.ntmps21
  go_wp2_with fail
  go_ret
  exact ⟨w.heap.size, rfl, Blk.new w 9 _, (Ext.refl w).alloc _, Nat.le_refl _⟩
theorem namesX_any (w : World) : Calls Tryz.prog 22 #[] w fun e w' => ∃ gl, e = .returned (.slice (some ⟨gl, 0, none⟩) 5 5) ∧ Blk w' gl 9 (names5.map str).toArray ∧ Ext w w' ∧ w.heap.size ≤ gl :=
  (names_any w).mono fun _ _ ⟨h1, h2, h3⟩ => ⟨w.heap.size, h1, h2, h3, Nat.le_refl _⟩
theorem labels_get {x : Int} (h0 : 0 ≤ x) (h1 : x < 5) : ∃ t, ∃ h : x.toNat < labels5.length, labels5[x.toNat] = t ∧ t.length ≤ 5 := by
  obtain ⟨n, rfl⟩ := Int.eq_ofNat_of_zero_le h0
  have hn : n < labels5.length := by show n < 5; omega
  refine ⟨labels5[n], hn, rfl, ?_⟩
  have hall : ∀ t ∈ labels5, t.length ≤ 5 := by decide +kernel
  exact hall _ (List.getElem_mem hn)
theorem row_get {ls : List (List UInt8)} {k : Nat} {t : List UInt8} {h : k < ls.length} (he : ls[k] = t) : ((ls.map str).toArray)[k]? = some (str t) := by
  rw [List.getElem?_toArray, List.getElem?_map, List.getElem?_eq_getElem h, he]
  rfl
theorem TapeAt.drew {B g : Nat} {w : World} {L : Value} {l : List Int} {a : Nat} (h : TapeAt B g w L l a) : TapeAt B g w.drew L l a :=
  h.below ⟨rfl, rfl, rfl, Nat.le_refl _, fun _ _ => rfl⟩
/-- What Command returns. -/
def CmdPost (B g : Nat) (w : World) (L : Value) (l : List Int) (e : Ending) (w' : World) : Prop :=
  ∃ (c : Cmd) (a' : Nat), e = .returned (cmdV c) ∧ c.name.length ≤ 5 ∧ c.other.length ≤ 5 ∧ c.text.length ≤ 7000 ∧ TapeAt B g w' L l a' ∧ KB B g w w'
theorem cmd_end {B B' g ga : Nat} {w w1 : World} {L : Value} {l : List Int} {a : Nat} {v0 v1 v2 v3 v4 u0 u1 u2 u3 u4 : Value} (ht : TapeAt B g w1 L l a) (hk : KB B g w w1) (hga : B ≤ ga) (c : Cmd) (h1 : c.name.length ≤ 5) (h2 : c.other.length ≤ 5) (h3 : c.text.length ≤ 7000) (hv : .agg #[v0, v1, v2, v3, v4] = cmdV c) (hB : B = B') :
    CmdPost B' g w L l (.returned (.agg #[v0, v1, v2, v3, v4])) (((((w1.setCell ⟨ga, 0, none⟩ u0).setCell ⟨ga, 1, none⟩ u1).setCell ⟨ga, 2, none⟩ u2).setCell ⟨ga, 3, none⟩ u3).setCell ⟨ga, 4, none⟩ u4) := by
  subst hB
  have hb : Below B w1 (((((w1.setCell ⟨ga, 0, none⟩ u0).setCell ⟨ga, 1, none⟩ u1).setCell ⟨ga, 2, none⟩ u2).setCell ⟨ga, 3, none⟩ u3).setCell ⟨ga, 4, none⟩ u4) :=
    ((((((Below.refl B w1).setCell (p := ⟨ga, 0, none⟩) hga _).setCell (p := ⟨ga, 1, none⟩) hga _).setCell (p := ⟨ga, 2, none⟩) hga _).setCell (p := ⟨ga, 3, none⟩) hga _).setCell (p := ⟨ga, 4, none⟩) hga _)
  exact ⟨c, a, by rw [hv], h1, h2, h3, ht.below hb, hk.below hb⟩
/-- What stands behind a call that turns the tape alone. -/
structure CmdAt (B g gn ga : Nat) (w : World) (L : Value) (l : List Int) (w0 : World) (a : Nat) : Prop where
  tape : TapeAt B g w L l a
  kb : KB B g w0 w
  blk : Blk w ga 31 #[.int .i64 0, .string ⟨#[]⟩, .string ⟨#[]⟩, .string ⟨#[]⟩, .int .i64 0]
  row : Blk w gn 9 (names5.map str).toArray
  low : B ≤ ga
  lown : B ≤ gn
theorem CmdAt.next {B g gn ga : Nat} {w w' w0 : World} {L : Value} {l : List Int} {a a' : Nat} (h : CmdAt B g gn ga w L l w0 a) (ht : TapeAt B g w' L l a') (hk : ∀ B', KB B' g w w') : CmdAt B g gn ga w' L l w0 a' :=
  ⟨ht, h.kb.trans (hk B), (hk w.heap.size).blk h.blk h.blk.lt (by have := h.tape.lt; have := h.low; omega), (hk w.heap.size).blk h.row h.row.lt (by have := h.tape.lt; have := h.lown; omega), h.low, h.lown⟩
theorem CmdAt.ext {B g gn ga : Nat} {w w' w0 : World} {L : Value} {l : List Int} {a : Nat} (h : CmdAt B g gn ga w L l w0 a) (hx : Ext w w') : CmdAt B g gn ga w' L l w0 a :=
  have hb : Below B w w' := Below.mono hx (by have := h.low; have := h.blk.lt; omega)
  ⟨h.tape.below hb, h.kb.below hb, h.blk.ext hx, h.row.ext hx, h.low, h.lown⟩
theorem CmdAt.part {B g gn ga : Nat} {w w' w0 : World} {L : Value} {l : List Int} {a a' : Nat} (h : CmdAt B g gn ga w L l w0 a) (ht : TapeAt w.heap.size g w' L l a') (hk : KB w.heap.size g w w') : CmdAt B g gn ga w' L l w0 a' :=
  have hB : B ≤ w.heap.size := by have := h.low; have := h.blk.lt; omega
  ⟨h.tape.kb (hk.mono hB) ht.blk ht.pos, h.kb.trans (hk.mono hB), hk.blk h.blk h.blk.lt (by have := h.tape.lt; have := h.low; omega), hk.blk h.row h.row.lt (by have := h.tape.lt; have := h.lown; omega), h.low, h.lown⟩
end Big
end Go.Proofs.YtoehdoghghpmjaaGreatDoor
/- mill.Command: some of its ways. -/
namespace Go.Proofs.YtoehdoghghpmjaaGreatDoor
namespace Big
open Go.RowKit
set_option maxHeartbeats 8000000 in
set_option maxRecDepth 100000 in
theorem command_a (w : World) (g : Nat) (L : Value) (l : List Int) (a : Nat) (P : Int) (h : TapeAt w.heap.size g w L l a) (_hP1 : 1 ≤ P) (_hP2 : P ≤ 1000000) (hkey : nextV l (nextA l (nextA l a)) 26 = 0 ∨ nextV l (nextA l (nextA l a)) 26 = 1) :
    Calls Tryz.prog 10 #[.pointer (some ⟨g, 0, none⟩), .int .i64 P] w (CmdPost w.heap.size g w L l) := by
  have HT := Lib.hid h
  have HKEY := Lib.hid hkey
  clear h hkey
  go_enter Tryz.func10, Tryz.ntmps10
  go_wp2_with fail
  refine (labels_any _).mono ?_
  rintro e w1 ⟨gl, rfl, hb1, hx1, hgl⟩
  have HA1 := Lib.hid ((Blk.new w 31 #[.int .i64 0, .string ⟨#[]⟩, .string ⟨#[]⟩, .string ⟨#[]⟩, .int .i64 0]).ext hx1)
  have HX1 : Hid (Ext w w1) := Lib.hid (((Ext.refl w).alloc _).trans hx1)
  have HGLX : Hid (w.heap.size < gl) := Lib.hid (by simp at hgl; omega)
  have HL1 := Lib.hid hb1
  obtain ⟨ga, hga⟩ : ∃ ga, ga = w.heap.size := ⟨_, rfl⟩
  have HGA : Hid (ga ≤ w.heap.size) := Lib.hid (by omega)
  have HGE := Lib.hid hga
  rw [← hga] at HA1 HT HGLX ⊢
  clear hx1 hga hgl hb1
  go_wp2_with fail
  refine (namesX_any _).mono ?_
  rintro e w2 ⟨gn, rfl, hb2, hx2, hgn⟩
  have HC2 : Hid (CmdAt ga g gn ga w2 L l w a) := Lib.hid (by
    have hb := Below.mono (HX1.out.trans hx2) HGA.out
    have hlt := HA1.out.lt
    exact ⟨HT.out.below hb, (KB.refl ga g w).below hb, HA1.out.ext hx2, hb2, Nat.le_refl _, by omega⟩)
  have HL2 := Lib.hid (HL1.out.ext hx2)
  have HGL : Hid (g < gl) := Lib.hid (by have h1 := HT.out.lt; have h2 := HGLX.out; omega)
  clear hb2 hx2 hgn HA1 HX1 HGLX HL1 HT HGA
  go_upto_region 2 with fail
  go_cut [7, 8] from 12 to 25 (fun s7 s8 wx => ∃ (nm lb : List UInt8) (nb lv : ByteArray) (a' : Nat), s7 = .string nb ∧ s8 = .string lv ∧ str nm = .string nb ∧ str lb = .string lv ∧ nm.length ≤ 5 ∧ lb.length ≤ 5 ∧ CmdAt ga g gn ga wx L l w a' ∧ Hid (a' = nextA l (nextA l a)))
  case first =>
    have hr1 := nextV_range (l := l) (a := a) (n := 5) (by decide)
    have hr2 := nextV_range (l := l) (a := nextA l a) (n := 5) (by decide)
    have HND := Lib.hid (next_any ga g w2.drew L l a 5 HC2.out.tape.drew (by decide) (by decide))
    have HNE := Lib.hid (fun W ht => next_any ga g W L l (nextA l a) 5 ht (by decide) (by decide))
    generalize nextV l a 5 = p at *
    generalize nextV l (nextA l a) 5 = q at *
    obtain ⟨a2, ha2⟩ : ∃ a2, a2 = nextA l (nextA l a) := ⟨_, rfl⟩
    have HA2 := Lib.hid ha2
    rw [← ha2] at HNE
    generalize nextA l a = a1 at *
    clear ha2
    obtain ⟨p0, p1⟩ := hr1
    obtain ⟨q0, q1⟩ := hr2
    obtain ⟨nm, hln, hen, _, hnl⟩ := names_get p0 p1
    obtain ⟨lb, hll, hel, hlb⟩ := labels_get q0 q1
    obtain ⟨nb, hnb⟩ : ∃ nb, str nm = .string nb := ⟨_, rfl⟩
    obtain ⟨lv, hlv⟩ : ∃ lv, str lb = .string lv := ⟨_, rfl⟩
    have HFN : Hid (((names5.map str).toArray)[p.toNat]? = some (.string nb)) := Lib.hid (by rw [← hnb]; exact row_get (h := hln) hen)
    have HFL : Hid (((labels5.map str).toArray)[q.toNat]? = some (.string lv)) := Lib.hid (by rw [← hlv]; exact row_get (h := hll) hel)
    have HNB := Lib.hid hnb
    have HLV := Lib.hid hlv
    have HLN := Lib.hid (And.intro hnl hlb)
    clear hln hen hnl hll hel hlb hnb hlv
    have HCD : Hid (CmdAt ga g gn ga w2.drew L l w a) := Lib.hid (HC2.out.next HC2.out.tape.drew (fun B' => (KB.refl B' g w2).drewN 1))
    have HLD : Hid (Blk w2.drew gl 9 (labels5.map str).toArray) := Lib.hid HL2.out.drew
    go_region_with (first
      | (go_at_call 23; refine HND.out.mono ?_; rintro e w3 ⟨rfl, ht3, hk3⟩; have HT3 := Lib.hid ht3; have HC3 := Lib.hid (HCD.out.next ht3 hk3); have HL3 := Lib.hid ((hk3 w2.drew.heap.size).blk HLD.out HLD.out.lt (by have := HGL.out; omega)); have c3 := (HC3.out.row.cell p.toNat).trans HFN.out; clear ht3 hk3)
      | (go_at_call 23; refine (HNE.out _ HT3.out).mono ?_; rintro e w4 ⟨rfl, ht4, hk4⟩; have HC4 := Lib.hid (HC3.out.next ht4 hk4); have HL4 := Lib.hid ((hk4 _).blk HL3.out HL3.out.lt (by have := HGL.out; omega)); have c4 := (HC4.out.row.cell p.toNat).trans HFN.out; have d4 := (HL4.out.cell q.toNat).trans HFL.out; clear ht4 hk4))
    all_goals
      go_wp2_with fail
      go_meet
      exact ⟨nm, lb, nb, lv, _, rfl, rfl, HNB.out, HLV.out, HLN.out.1, HLN.out.2, HC4.out, HA2⟩
  case rest =>
  obtain ⟨nm, lb, nb, lv, a2, rfl, rfl, hnb, hlv, hnl, hll, hc, HA2⟩ := hcut
  have HNB := Lib.hid (And.intro hnb hlv)
  have HLN := Lib.hid (And.intro hnl hll)
  have HC5 := Lib.hid hc
  clear hnb hlv hnl hll hc HC2 HL2 HGL
  generalize wc = w5 at *
  go_wp2_with fail
  refine (next_any ga g w5 L l a2 26 HC5.out.tape (by decide) (by decide)).mono ?_
  rintro e w6 ⟨rfl, ht6, hk6⟩
  have HC6 := Lib.hid (HC5.out.next ht6 hk6)
  have key : nextV l a2 26 = 0 ∨ nextV l a2 26 = 1 := by have := HKEY.out; rw [← HA2.out] at this; exact this
  clear HKEY HA2
  generalize nextV l a2 26 = x at *
  generalize nextA l a2 = a3 at *
  clear ht6 hk6 HC5
  rcases key with rfl | rfl
  · go_wp2_with fail
    refine (range_any ga g w6 L l a3 1 3 HC6.out.tape (by decide) (by decide) (by decide)).mono ?_
    rintro e w7 ⟨rfl, ht7, hk7⟩
    have HC7 := Lib.hid (HC6.out.next ht7 hk7)
    have hr := nextV_range (l := l) (a := a3) (n := 3 - 1 + 1) (by decide)
    obtain ⟨d, hd⟩ : ∃ d : Nat, (d : Int) = 1 + nextV l a3 (3 - 1 + 1) := ⟨(1 + nextV l a3 (3 - 1 + 1)).toNat, by omega⟩
    have hd1 : 1 ≤ d := by omega
    have hd3 : d ≤ 3 := by omega
    rw [← hd]
    generalize nextA l a3 = a4 at *
    clear hd hr ht7 hk7 HC6
    go_wp2_with fail
    refine (next_any ga g w7 L l a4 3 HC7.out.tape (by decide) (by decide)).mono ?_
    rintro e w8 ⟨rfl, ht8, hk8⟩
    have HC8 := Lib.hid (HC7.out.next ht8 hk8)
    generalize nextV l a4 3 = z at *
    generalize nextA l a4 = a5 at *
    clear ht8 hk8 HC7
    go_wp2_with fail
    refine (expr_any d g w8 L l a5 _ (HC8.out.tape.mono (by have := HC8.out.low; have := HC8.out.blk.lt; omega)) hd1 (by omega)).mono ?_
    rintro e w9 ⟨x, v9, a9, rfl, hgd, hsz, hdp, hown, htp, hk9⟩
    have HC9 := Lib.hid (HC8.out.part htp hk9)
    have hp8 : 2 ^ d ≤ 2 ^ 3 := Nat.pow_le_pow_right (by omega) hd3
    have hsz8 : x.size ≤ 7 := by omega
    have hdp8 : x.depth ≤ 3 := by omega
    have HPR := Lib.hid (format20_any w9 v9 x (by rw [List.nil_append] at hown; exact hown.read) hgd (by omega) (by omega))
    have htl := nodeT_len fmtI fmtI_len x hgd
    have HTL : Hid ((nodeT fmtI x).length ≤ 7000) := Lib.hid (by omega)
    obtain ⟨A9, c9, rfl⟩ := (show OwnNd _ w9 v9 _ from hown).shape
    generalize nodeT fmtI x = s at *
    obtain ⟨sb, hsb⟩ : ∃ sb, str s = .string sb := ⟨_, rfl⟩
    have HSB := Lib.hid hsb
    rw [hsb] at HPR
    generalize (List.length ([] ++ flat (List.length []) x)) = fl at *
    clear hgd hsz hdp hown htp hk9 hp8 hsz8 hdp8 htl hd1 hd3 hsb HC8
    go_wp2_with fail
    refine HPR.out.mono ?_
    rintro e w10 ⟨rfl, hx10⟩
    have HC10 := Lib.hid (HC9.out.ext hx10)
    clear hx10 HC9 HPR
    have z0 := HC10.out.blk.cell 0
    have z1 := HC10.out.blk.cell 1
    have z2 := HC10.out.blk.cell 2
    have z3 := HC10.out.blk.cell 3
    have z4 := HC10.out.blk.cell 4
    have y0 := HC10.out.blk.frozen 0
    have y1 := HC10.out.blk.frozen 1
    have y2 := HC10.out.blk.frozen 2
    have y3 := HC10.out.blk.frozen 3
    have y4 := HC10.out.blk.frozen 4
    have yz := HC10.out.blk.lt
    go_wp2_with fail
    obtain ⟨r0, r1, r2, r3, r4⟩ := five_set HC10.out.blk (.int .i64 1) (.string nb) (.string ⟨#[]⟩) (.string sb) (.int .i64 0)
    refine bodyPost_ret (v := .agg #[.int .i64 1, .string nb, .string ⟨#[]⟩, .string sb, .int .i64 0]) (by simp [results, Tryz.results10, go_sem, r0, r1, r2, r3, r4]) rfl ?_
    exact cmd_end HC10.out.tape HC10.out.kb HC10.out.low ⟨1, nm, [], s, 0⟩ (HLN.out.1) (Nat.zero_le _) (HTL.out) (by unfold cmdV; rw [HNB.out.1, HSB.out]; rfl) HGE.out
  · go_wp2_with fail
    refine (range_any ga g w6 L l a3 1 3 HC6.out.tape (by decide) (by decide) (by decide)).mono ?_
    rintro e w7 ⟨rfl, ht7, hk7⟩
    have HC7 := Lib.hid (HC6.out.next ht7 hk7)
    have hr := nextV_range (l := l) (a := a3) (n := 3 - 1 + 1) (by decide)
    obtain ⟨d, hd⟩ : ∃ d : Nat, (d : Int) = 1 + nextV l a3 (3 - 1 + 1) := ⟨(1 + nextV l a3 (3 - 1 + 1)).toNat, by omega⟩
    have hd1 : 1 ≤ d := by omega
    have hd3 : d ≤ 3 := by omega
    rw [← hd]
    generalize nextA l a3 = a4 at *
    clear hd hr ht7 hk7 HC6
    go_wp2_with fail
    refine (next_any ga g w7 L l a4 3 HC7.out.tape (by decide) (by decide)).mono ?_
    rintro e w8 ⟨rfl, ht8, hk8⟩
    have HC8 := Lib.hid (HC7.out.next ht8 hk8)
    generalize nextV l a4 3 = z at *
    generalize nextA l a4 = a5 at *
    clear ht8 hk8 HC7
    go_wp2_with fail
    refine (expr_any d g w8 L l a5 _ (HC8.out.tape.mono (by have := HC8.out.low; have := HC8.out.blk.lt; omega)) hd1 (by omega)).mono ?_
    rintro e w9 ⟨x, v9, a9, rfl, hgd, hsz, hdp, hown, htp, hk9⟩
    have HC9 := Lib.hid (HC8.out.part htp hk9)
    have hp8 : 2 ^ d ≤ 2 ^ 3 := Nat.pow_le_pow_right (by omega) hd3
    have hsz8 : x.size ≤ 7 := by omega
    have hdp8 : x.depth ≤ 3 := by omega
    have HPR := Lib.hid (format20_any w9 v9 x (by rw [List.nil_append] at hown; exact hown.read) hgd (by omega) (by omega))
    have htl := nodeT_len fmtI fmtI_len x hgd
    have HTL : Hid ((nodeT fmtI x).length ≤ 7000) := Lib.hid (by omega)
    obtain ⟨A9, c9, rfl⟩ := (show OwnNd _ w9 v9 _ from hown).shape
    generalize nodeT fmtI x = s at *
    obtain ⟨sb, hsb⟩ : ∃ sb, str s = .string sb := ⟨_, rfl⟩
    have HSB := Lib.hid hsb
    rw [hsb] at HPR
    generalize (List.length ([] ++ flat (List.length []) x)) = fl at *
    clear hgd hsz hdp hown htp hk9 hp8 hsz8 hdp8 htl hd1 hd3 hsb HC8
    go_wp2_with fail
    refine HPR.out.mono ?_
    rintro e w10 ⟨rfl, hx10⟩
    have HC10 := Lib.hid (HC9.out.ext hx10)
    clear hx10 HC9 HPR
    have z0 := HC10.out.blk.cell 0
    have z1 := HC10.out.blk.cell 1
    have z2 := HC10.out.blk.cell 2
    have z3 := HC10.out.blk.cell 3
    have z4 := HC10.out.blk.cell 4
    have y0 := HC10.out.blk.frozen 0
    have y1 := HC10.out.blk.frozen 1
    have y2 := HC10.out.blk.frozen 2
    have y3 := HC10.out.blk.frozen 3
    have y4 := HC10.out.blk.frozen 4
    have yz := HC10.out.blk.lt
    go_wp2_with fail
    obtain ⟨r0, r1, r2, r3, r4⟩ := five_set HC10.out.blk (.int .i64 1) (.string nb) (.string ⟨#[]⟩) (.string sb) (.int .i64 0)
    refine bodyPost_ret (v := .agg #[.int .i64 1, .string nb, .string ⟨#[]⟩, .string sb, .int .i64 0]) (by simp [results, Tryz.results10, go_sem, r0, r1, r2, r3, r4]) rfl ?_
    exact cmd_end HC10.out.tape HC10.out.kb HC10.out.low ⟨1, nm, [], s, 0⟩ (HLN.out.1) (Nat.zero_le _) (HTL.out) (by unfold cmdV; rw [HNB.out.1, HSB.out]; rfl) HGE.out
end Big
end Go.Proofs.YtoehdoghghpmjaaGreatDoor
/- mill.Command: some of its ways. -/
namespace Go.Proofs.YtoehdoghghpmjaaGreatDoor
namespace Big
open Go.RowKit
set_option maxHeartbeats 8000000 in
set_option maxRecDepth 100000 in
theorem command_b (w : World) (g : Nat) (L : Value) (l : List Int) (a : Nat) (P : Int) (h : TapeAt w.heap.size g w L l a) (_hP1 : 1 ≤ P) (_hP2 : P ≤ 1000000) (hkey : nextV l (nextA l (nextA l a)) 26 = 2 ∨ nextV l (nextA l (nextA l a)) 26 = 3) :
    Calls Tryz.prog 10 #[.pointer (some ⟨g, 0, none⟩), .int .i64 P] w (CmdPost w.heap.size g w L l) := by
  have HT := Lib.hid h
  have HKEY := Lib.hid hkey
  clear h hkey
  go_enter Tryz.func10, Tryz.ntmps10
  go_wp2_with fail
  refine (labels_any _).mono ?_
  rintro e w1 ⟨gl, rfl, hb1, hx1, hgl⟩
  have HA1 := Lib.hid ((Blk.new w 31 #[.int .i64 0, .string ⟨#[]⟩, .string ⟨#[]⟩, .string ⟨#[]⟩, .int .i64 0]).ext hx1)
  have HX1 : Hid (Ext w w1) := Lib.hid (((Ext.refl w).alloc _).trans hx1)
  have HGLX : Hid (w.heap.size < gl) := Lib.hid (by simp at hgl; omega)
  have HL1 := Lib.hid hb1
  obtain ⟨ga, hga⟩ : ∃ ga, ga = w.heap.size := ⟨_, rfl⟩
  have HGA : Hid (ga ≤ w.heap.size) := Lib.hid (by omega)
  have HGE := Lib.hid hga
  rw [← hga] at HA1 HT HGLX ⊢
  clear hx1 hga hgl hb1
  go_wp2_with fail
  refine (namesX_any _).mono ?_
  rintro e w2 ⟨gn, rfl, hb2, hx2, hgn⟩
  have HC2 : Hid (CmdAt ga g gn ga w2 L l w a) := Lib.hid (by
    have hb := Below.mono (HX1.out.trans hx2) HGA.out
    have hlt := HA1.out.lt
    exact ⟨HT.out.below hb, (KB.refl ga g w).below hb, HA1.out.ext hx2, hb2, Nat.le_refl _, by omega⟩)
  have HL2 := Lib.hid (HL1.out.ext hx2)
  have HGL : Hid (g < gl) := Lib.hid (by have h1 := HT.out.lt; have h2 := HGLX.out; omega)
  clear hb2 hx2 hgn HA1 HX1 HGLX HL1 HT HGA
  go_upto_region 2 with fail
  go_cut [7, 8] from 12 to 25 (fun s7 s8 wx => ∃ (nm lb : List UInt8) (nb lv : ByteArray) (a' : Nat), s7 = .string nb ∧ s8 = .string lv ∧ str nm = .string nb ∧ str lb = .string lv ∧ nm.length ≤ 5 ∧ lb.length ≤ 5 ∧ CmdAt ga g gn ga wx L l w a' ∧ Hid (a' = nextA l (nextA l a)))
  case first =>
    have hr1 := nextV_range (l := l) (a := a) (n := 5) (by decide)
    have hr2 := nextV_range (l := l) (a := nextA l a) (n := 5) (by decide)
    have HND := Lib.hid (next_any ga g w2.drew L l a 5 HC2.out.tape.drew (by decide) (by decide))
    have HNE := Lib.hid (fun W ht => next_any ga g W L l (nextA l a) 5 ht (by decide) (by decide))
    generalize nextV l a 5 = p at *
    generalize nextV l (nextA l a) 5 = q at *
    obtain ⟨a2, ha2⟩ : ∃ a2, a2 = nextA l (nextA l a) := ⟨_, rfl⟩
    have HA2 := Lib.hid ha2
    rw [← ha2] at HNE
    generalize nextA l a = a1 at *
    clear ha2
    obtain ⟨p0, p1⟩ := hr1
    obtain ⟨q0, q1⟩ := hr2
    obtain ⟨nm, hln, hen, _, hnl⟩ := names_get p0 p1
    obtain ⟨lb, hll, hel, hlb⟩ := labels_get q0 q1
    obtain ⟨nb, hnb⟩ : ∃ nb, str nm = .string nb := ⟨_, rfl⟩
    obtain ⟨lv, hlv⟩ : ∃ lv, str lb = .string lv := ⟨_, rfl⟩
    have HFN : Hid (((names5.map str).toArray)[p.toNat]? = some (.string nb)) := Lib.hid (by rw [← hnb]; exact row_get (h := hln) hen)
    have HFL : Hid (((labels5.map str).toArray)[q.toNat]? = some (.string lv)) := Lib.hid (by rw [← hlv]; exact row_get (h := hll) hel)
    have HNB := Lib.hid hnb
    have HLV := Lib.hid hlv
    have HLN := Lib.hid (And.intro hnl hlb)
    clear hln hen hnl hll hel hlb hnb hlv
    have HCD : Hid (CmdAt ga g gn ga w2.drew L l w a) := Lib.hid (HC2.out.next HC2.out.tape.drew (fun B' => (KB.refl B' g w2).drewN 1))
    have HLD : Hid (Blk w2.drew gl 9 (labels5.map str).toArray) := Lib.hid HL2.out.drew
    go_region_with (first
      | (go_at_call 23; refine HND.out.mono ?_; rintro e w3 ⟨rfl, ht3, hk3⟩; have HT3 := Lib.hid ht3; have HC3 := Lib.hid (HCD.out.next ht3 hk3); have HL3 := Lib.hid ((hk3 w2.drew.heap.size).blk HLD.out HLD.out.lt (by have := HGL.out; omega)); have c3 := (HC3.out.row.cell p.toNat).trans HFN.out; clear ht3 hk3)
      | (go_at_call 23; refine (HNE.out _ HT3.out).mono ?_; rintro e w4 ⟨rfl, ht4, hk4⟩; have HC4 := Lib.hid (HC3.out.next ht4 hk4); have HL4 := Lib.hid ((hk4 _).blk HL3.out HL3.out.lt (by have := HGL.out; omega)); have c4 := (HC4.out.row.cell p.toNat).trans HFN.out; have d4 := (HL4.out.cell q.toNat).trans HFL.out; clear ht4 hk4))
    all_goals
      go_wp2_with fail
      go_meet
      exact ⟨nm, lb, nb, lv, _, rfl, rfl, HNB.out, HLV.out, HLN.out.1, HLN.out.2, HC4.out, HA2⟩
  case rest =>
  obtain ⟨nm, lb, nb, lv, a2, rfl, rfl, hnb, hlv, hnl, hll, hc, HA2⟩ := hcut
  have HNB := Lib.hid (And.intro hnb hlv)
  have HLN := Lib.hid (And.intro hnl hll)
  have HC5 := Lib.hid hc
  clear hnb hlv hnl hll hc HC2 HL2 HGL
  generalize wc = w5 at *
  go_wp2_with fail
  refine (next_any ga g w5 L l a2 26 HC5.out.tape (by decide) (by decide)).mono ?_
  rintro e w6 ⟨rfl, ht6, hk6⟩
  have HC6 := Lib.hid (HC5.out.next ht6 hk6)
  have key : nextV l a2 26 = 2 ∨ nextV l a2 26 = 3 := by have := HKEY.out; rw [← HA2.out] at this; exact this
  clear HKEY HA2
  generalize nextV l a2 26 = x at *
  generalize nextA l a2 = a3 at *
  clear ht6 hk6 HC5
  rcases key with rfl | rfl
  · go_wp2_with fail
    refine (range_any ga g w6 L l a3 1 3 HC6.out.tape (by decide) (by decide) (by decide)).mono ?_
    rintro e w7 ⟨rfl, ht7, hk7⟩
    have HC7 := Lib.hid (HC6.out.next ht7 hk7)
    have hr := nextV_range (l := l) (a := a3) (n := 3 - 1 + 1) (by decide)
    obtain ⟨d, hd⟩ : ∃ d : Nat, (d : Int) = 1 + nextV l a3 (3 - 1 + 1) := ⟨(1 + nextV l a3 (3 - 1 + 1)).toNat, by omega⟩
    have hd1 : 1 ≤ d := by omega
    have hd3 : d ≤ 3 := by omega
    rw [← hd]
    generalize nextA l a3 = a4 at *
    clear hd hr ht7 hk7 HC6
    go_wp2_with fail
    refine (next_any ga g w7 L l a4 3 HC7.out.tape (by decide) (by decide)).mono ?_
    rintro e w8 ⟨rfl, ht8, hk8⟩
    have HC8 := Lib.hid (HC7.out.next ht8 hk8)
    generalize nextV l a4 3 = z at *
    generalize nextA l a4 = a5 at *
    clear ht8 hk8 HC7
    go_wp2_with fail
    refine (expr_any d g w8 L l a5 _ (HC8.out.tape.mono (by have := HC8.out.low; have := HC8.out.blk.lt; omega)) hd1 (by omega)).mono ?_
    rintro e w9 ⟨x, v9, a9, rfl, hgd, hsz, hdp, hown, htp, hk9⟩
    have HC9 := Lib.hid (HC8.out.part htp hk9)
    have hp8 : 2 ^ d ≤ 2 ^ 3 := Nat.pow_le_pow_right (by omega) hd3
    have hsz8 : x.size ≤ 7 := by omega
    have hdp8 : x.depth ≤ 3 := by omega
    have HPR := Lib.hid (format20_any w9 v9 x (by rw [List.nil_append] at hown; exact hown.read) hgd (by omega) (by omega))
    have htl := nodeT_len fmtI fmtI_len x hgd
    have HTL : Hid ((nodeT fmtI x).length ≤ 7000) := Lib.hid (by omega)
    obtain ⟨A9, c9, rfl⟩ := (show OwnNd _ w9 v9 _ from hown).shape
    generalize nodeT fmtI x = s at *
    obtain ⟨sb, hsb⟩ : ∃ sb, str s = .string sb := ⟨_, rfl⟩
    have HSB := Lib.hid hsb
    rw [hsb] at HPR
    generalize (List.length ([] ++ flat (List.length []) x)) = fl at *
    clear hgd hsz hdp hown htp hk9 hp8 hsz8 hdp8 htl hd1 hd3 hsb HC8
    go_wp2_with fail
    refine HPR.out.mono ?_
    rintro e w10 ⟨rfl, hx10⟩
    have HC10 := Lib.hid (HC9.out.ext hx10)
    clear hx10 HC9 HPR
    have z0 := HC10.out.blk.cell 0
    have z1 := HC10.out.blk.cell 1
    have z2 := HC10.out.blk.cell 2
    have z3 := HC10.out.blk.cell 3
    have z4 := HC10.out.blk.cell 4
    have y0 := HC10.out.blk.frozen 0
    have y1 := HC10.out.blk.frozen 1
    have y2 := HC10.out.blk.frozen 2
    have y3 := HC10.out.blk.frozen 3
    have y4 := HC10.out.blk.frozen 4
    have yz := HC10.out.blk.lt
    go_wp2_with fail
    obtain ⟨r0, r1, r2, r3, r4⟩ := five_set HC10.out.blk (.int .i64 1) (.string nb) (.string ⟨#[]⟩) (.string sb) (.int .i64 0)
    refine bodyPost_ret (v := .agg #[.int .i64 1, .string nb, .string ⟨#[]⟩, .string sb, .int .i64 0]) (by simp [results, Tryz.results10, go_sem, r0, r1, r2, r3, r4]) rfl ?_
    exact cmd_end HC10.out.tape HC10.out.kb HC10.out.low ⟨1, nm, [], s, 0⟩ (HLN.out.1) (Nat.zero_le _) (HTL.out) (by unfold cmdV; rw [HNB.out.1, HSB.out]; rfl) HGE.out
  · go_wp2_with fail
    refine (range_any ga g w6 L l a3 1 3 HC6.out.tape (by decide) (by decide) (by decide)).mono ?_
    rintro e w7 ⟨rfl, ht7, hk7⟩
    have HC7 := Lib.hid (HC6.out.next ht7 hk7)
    have hr := nextV_range (l := l) (a := a3) (n := 3 - 1 + 1) (by decide)
    obtain ⟨d, hd⟩ : ∃ d : Nat, (d : Int) = 1 + nextV l a3 (3 - 1 + 1) := ⟨(1 + nextV l a3 (3 - 1 + 1)).toNat, by omega⟩
    have hd1 : 1 ≤ d := by omega
    have hd3 : d ≤ 3 := by omega
    rw [← hd]
    generalize nextA l a3 = a4 at *
    clear hd hr ht7 hk7 HC6
    go_wp2_with fail
    refine (next_any ga g w7 L l a4 3 HC7.out.tape (by decide) (by decide)).mono ?_
    rintro e w8 ⟨rfl, ht8, hk8⟩
    have HC8 := Lib.hid (HC7.out.next ht8 hk8)
    generalize nextV l a4 3 = z at *
    generalize nextA l a4 = a5 at *
    clear ht8 hk8 HC7
    go_wp2_with fail
    refine (expr_any d g w8 L l a5 _ (HC8.out.tape.mono (by have := HC8.out.low; have := HC8.out.blk.lt; omega)) hd1 (by omega)).mono ?_
    rintro e w9 ⟨x, v9, a9, rfl, hgd, hsz, hdp, hown, htp, hk9⟩
    have HC9 := Lib.hid (HC8.out.part htp hk9)
    have hp8 : 2 ^ d ≤ 2 ^ 3 := Nat.pow_le_pow_right (by omega) hd3
    have hsz8 : x.size ≤ 7 := by omega
    have hdp8 : x.depth ≤ 3 := by omega
    have HPR := Lib.hid (format20_any w9 v9 x (by rw [List.nil_append] at hown; exact hown.read) hgd (by omega) (by omega))
    have htl := nodeT_len fmtI fmtI_len x hgd
    have HTL : Hid ((nodeT fmtI x).length ≤ 7000) := Lib.hid (by omega)
    obtain ⟨A9, c9, rfl⟩ := (show OwnNd _ w9 v9 _ from hown).shape
    generalize nodeT fmtI x = s at *
    obtain ⟨sb, hsb⟩ : ∃ sb, str s = .string sb := ⟨_, rfl⟩
    have HSB := Lib.hid hsb
    rw [hsb] at HPR
    generalize (List.length ([] ++ flat (List.length []) x)) = fl at *
    clear hgd hsz hdp hown htp hk9 hp8 hsz8 hdp8 htl hd1 hd3 hsb HC8
    go_wp2_with fail
    refine HPR.out.mono ?_
    rintro e w10 ⟨rfl, hx10⟩
    have HC10 := Lib.hid (HC9.out.ext hx10)
    clear hx10 HC9 HPR
    have z0 := HC10.out.blk.cell 0
    have z1 := HC10.out.blk.cell 1
    have z2 := HC10.out.blk.cell 2
    have z3 := HC10.out.blk.cell 3
    have z4 := HC10.out.blk.cell 4
    have y0 := HC10.out.blk.frozen 0
    have y1 := HC10.out.blk.frozen 1
    have y2 := HC10.out.blk.frozen 2
    have y3 := HC10.out.blk.frozen 3
    have y4 := HC10.out.blk.frozen 4
    have yz := HC10.out.blk.lt
    go_wp2_with fail
    obtain ⟨r0, r1, r2, r3, r4⟩ := five_set HC10.out.blk (.int .i64 1) (.string nb) (.string ⟨#[]⟩) (.string sb) (.int .i64 0)
    refine bodyPost_ret (v := .agg #[.int .i64 1, .string nb, .string ⟨#[]⟩, .string sb, .int .i64 0]) (by simp [results, Tryz.results10, go_sem, r0, r1, r2, r3, r4]) rfl ?_
    exact cmd_end HC10.out.tape HC10.out.kb HC10.out.low ⟨1, nm, [], s, 0⟩ (HLN.out.1) (Nat.zero_le _) (HTL.out) (by unfold cmdV; rw [HNB.out.1, HSB.out]; rfl) HGE.out
end Big
end Go.Proofs.YtoehdoghghpmjaaGreatDoor
