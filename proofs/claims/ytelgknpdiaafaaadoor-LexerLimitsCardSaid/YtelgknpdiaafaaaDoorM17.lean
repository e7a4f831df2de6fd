import Derived.Test.YtelgknpdiaafaaaDoorM14
import Derived.Test.YtelgknpdiaafaaaDoorM13
import Derived.Test.YtelgknpdiaafaaaDoorM16
import Derived.Laws.StructEq
import Derived.Laws.OwnMore
import Derived.Test.YtelgknpdiaafaaaDoorM15
import Derived.Test.YtelgknpdiaafaaaDoorRows
import Derived.Test.YtelgknpdiaafaaaDoorM3
import Derived.ProofKit
import Derived.LaidMore
import Derived.OpenShut
import Derived.Stop.Joined
import Derived.Lib.LaidTab
import Derived.Carry
import Derived.Handed
import Derived.HandedShaped
import Derived.Deep.Strs
import Derived.ChangeMaps5
import Derived.Lib.SmallJoins
/- The reference's Scan. -/
namespace Go.Proofs.YtelgknpdiaafaaaDoor
namespace Big
open Go.RowKit
theorem news3 (w : World) (ty : TypeId) (x y z : Value) : ∀ (j : Nat) (u : Value), [x, y, z][j]? = some u → (w.alloc (.cells #[x, y, z] ty)).cell? ((⟨w.heap.size, 0, none⟩ : Addr).add j) = some u := fun j u hj => by
  have h1 := (Blk.new w ty #[x, y, z]).cell j
  have h2 : (⟨w.heap.size, 0, none⟩ : Addr).add j = ⟨w.heap.size, j, none⟩ := by
    unfold Addr.add
    split
    · rename_i h; subst h; rfl
    · simp
  rw [h2, h1, ← hj]
  simp
theorem ownsRow_lt {w : World} {base : Nat} {e : TypeId} {size n : Nat} {v : Value} {xs : List Value} (h : w.ownsRow base e size v n xs) : ∀ k, v.ownBlock = some k → k < w.heap.size := by
  obtain ⟨h1, h2⟩ := h
  rcases h2 with ⟨rfl, _⟩ | ⟨g, cap, cur, rfl, hg, hh, _⟩
  · intro k hk; simp [Value.ownBlock] at hk
  · intro k hk
    simp only [Value.ownBlock, Option.some.injEq] at hk
    subst hk
    rcases Nat.lt_or_ge g w.heap.size with h | h
    · exact h
    · rw [Array.getElem?_eq_none h] at hh; cases hh
/-- What the loop of the reference's Scan holds. -/
def RScanLoop (w wr : World) (l : List UInt8) (a : Nat) (ts : List Tok) (tv : Value) : Prop :=
  ts.length ≤ a ∧ wr.ownsRow w.heap.size 36 3 tv ts.length (toksC ts) ∧ Ext w wr ∧ MaxV wr ∧ scanGo l a ts = scanT l
/-- A token's block and the list, behind whatever else was made. -/
structure RMid (w wr W : World) (a k : Nat) (t : List UInt8) (ts : List Tok) (tv : Value) : Prop where
  blk : Blk W wr.heap.size 36 #[.int .i64 (k : Int), .int .i64 (a : Int), str t]
  row : W.ownsRow w.heap.size 36 3 tv ts.length (toksC ts)
  own : ∀ b, tv.ownBlock = some b → w.heap.size ≤ b ∧ b < wr.heap.size
  ext : Ext w W
theorem RMid.start {w wr : World} {a k : Nat} {t : List UInt8} {ts : List Tok} {tv : Value} (hx : Ext w wr) (hr : wr.ownsRow w.heap.size 36 3 tv ts.length (toksC ts)) :
    RMid w wr (wr.alloc (.cells #[.int .i64 (k : Int), .int .i64 (a : Int), str t] 36)).drew a k t ts tv :=
  ⟨(Blk.new wr _ _).drew, ownsRow_below hr (fun g _ hg => Below.heap_alloc _ _ g hg), fun b hb => And.intro (ownsRow_block hr b hb) (ownsRow_lt hr b hb), (hx.alloc (.cells #[.int .i64 (k : Int), .int .i64 (a : Int), str t] 36)).drewN 1⟩
theorem RMid.more {w wr W W' : World} {a k : Nat} {t : List UInt8} {ts : List Tok} {tv : Value} (h : RMid w wr W a k t ts tv) (hx : Ext W W') : RMid w wr W' a k t ts tv :=
  ⟨h.blk.ext hx, ownsRow_below h.row (fun g _ hg => Below.block hx g hg), h.own, h.ext.trans hx⟩
/-- Behind the append. -/
theorem RMid.done {w wr W W' : World} {a k : Nat} {t : List UInt8} {ts : List Tok} {tv v' : Value} (h : RMid w wr W a k t ts tv) (ho : Obj) (hg : wr.heap.size < W.heap.size)
    (hown : W'.ownsRow w.heap.size 36 3 v' (ts.length + 1) (toksC ts ++ [.int .i64 (k : Int), .int .i64 (a : Int), str t])) (hgr : (W.alloc ho).grownBy W' tv.ownBlock) :
    Blk W' wr.heap.size 36 #[.int .i64 (k : Int), .int .i64 (a : Int), str t] ∧ W'.ownsRow w.heap.size 36 3 v' (ts ++ [(⟨k, a, t⟩ : Tok)]).length (toksC (ts ++ [(⟨k, a, t⟩ : Tok)])) ∧ Ext w W' := by
  refine ⟨?_, ?_, ?_⟩
  · have h1 := hgr.block wr.heap.size (show wr.heap.size < (W.alloc ho).heap.size by simp; omega) (fun e => by have := (h.own _ e.symm).2; omega)
    exact h1.trans (h.blk.alloc ho)
  · rw [toksC_snoc, List.length_append, List.length_singleton]
    exact hown
  · exact (h.ext.alloc ho).grown hgr (fun b hb => (h.own b hb).1)
theorem rpos {l : List UInt8} {a n : Nat} (h : a + n ≤ l.length) : (l.take ((a : Int) + (n : Int)).toNat).drop a = (l.drop a).take n := by
  rw [show ((a : Int) + (n : Int)).toNat = a + n by omega, List.drop_take, Nat.add_sub_cancel_left]
set_option maxHeartbeats 4000000 in
set_option maxRecDepth 100000 in
theorem rscan_short (w : World) (l : List UInt8) (hm : MaxV w) (hl : l.length ≤ 400) : Calls Tryd.prog 8 #[str l] w (ScanRes w l) := by
  have HM := Lib.hid hm
  have HT : Hid (scanGo l 0 [] = scanT l) := Lib.hid (by unfold scanT scanGo; rw [if_neg (by omega)])
  have h400 : ¬ (400 : Int) < (l.length : Int) := by omega
  have HMV := Lib.hid (fun W hx => HM.out.ext (w' := W) hx)
  obtain ⟨i0, hi, hz0, hz1, hz2⟩ := info_parts info_tok
  clear hm
  go_enter Tryd.func8, Tryd.ntmps8
  go_wp2_with fail
  go_loopg [5, 6] l.length (fun gh s5 s6 wr => ∃ (a : Nat) (ts : List Tok) (tv : Value), gh = l.length - a ∧ s5 = tv ∧ s6 = .int .i64 (a : Int) ∧ a ≤ l.length ∧ RScanLoop w wr l a ts tv)
  case atStart => exact ⟨0, [], _, rfl, rfl, rfl, Nat.zero_le _, Nat.le_refl _, ⟨rfl, .inl ⟨rfl, rfl⟩⟩, Ext.refl w, HM.out, HT.out⟩
  case round =>
    obtain ⟨a, ts, tv, hgg, rfl, rfl, hal, htl, hrow, hx, hmv, hgo⟩ := hrel
    have HGG := Lib.hid hgg
    have HGO := Lib.hid hgo
    have HX := Lib.hid hx
    have HROW := Lib.hid hrow
    obtain ⟨At, ct, htv⟩ := ownsRow_shape hrow
    subst htv
    clear hgg hgo hx HT hrow
    by_cases hlt : a < l.length
    · have hsp := byte_space hlt
      have hbl := byteAt_lt l a
      have HLT := Lib.hid (fun W => rletter_any W (byteAt l a) hbl)
      have HDG := Lib.hid (fun W => rdigit_any W (byteAt l a) hbl)
      have HSG := Lib.hid (fun W => rsign_any W (byteAt l a) hbl)
      have HX1 := Lib.hid (HX.out.alloc (.cells #[.int .i64 0, .int .i64 (a : Int), .string ⟨#[]⟩] 36))
      have HB1 := Lib.hid (Blk.new wr 36 #[.int .i64 0, .int .i64 (a : Int), .string ⟨#[]⟩])
      have hgz := HX.out.size
      by_cases h32 : byteAt l a = 32
      · have HNX := Lib.hid (scanGo_space (ts := ts) hlt (hsp.2 h32))
        have hb32 : ((byteAt l a : Int) == 32) = true := by rw [h32]; rfl
        have HMV1 := Lib.hid (HMV.out _ HX1.out)
        clear hsp h32 hmv
        go_wp2_with fail
        go_roundg (l.length - (a + 1))
        case rel => exact ⟨a + 1, ts, _, rfl, rfl, by go_num, by omega, by omega, ownsRow_below HROW.out (fun g _ hg => Below.heap_alloc _ _ g hg), HX1.out, HMV1.out, by rw [← HNX.out]; exact HGO.out⟩
        case measure => rw [HGG.out]; omega
      · have hb32 : ((byteAt l a : Int) == 32) = false := by rw [beq_eq_false_iff_ne]; omega
        have hnsp : l[a]? ≠ some 32 := fun h => h32 (hsp.1 h)
        have ha0 : (0 : Int) ≤ (a : Int) := by omega
        have ha1 : (a : Int) ≤ (l.length : Int) := by omega
        clear hsp h32 hmv
        cases hlet : letN (byteAt l a)
        · rw [hlet] at HLT
          cases hdig : digN (byteAt l a)
          · rw [hdig] at HDG
            have htk := tok_sign hlt hlet hdig
            cases hsg : signN (byteAt l a)
            · rw [hsg] at htk HSG
              have HR : Hid (scanT l = ([], a, 6)) := Lib.hid (by rw [← HGO.out]; exact scanGo_none hlt hnsp htk)
              clear htk hnsp hlet hdig hsg
              go_wp2_with fail
              refine (HLT.out _).mono ?_
              rintro e w2 ⟨rfl, rfl⟩
              go_wp2_with fail
              refine (HDG.out _).mono ?_
              rintro e w2 ⟨rfl, rfl⟩
              go_wp2_with fail
              refine (HSG.out _).mono ?_
              rintro e w2 ⟨rfl, rfl⟩
              go_wp2_with fail
              go_ret3
              exact ⟨_, by rw [HR.out]; rfl, by rw [HR.out]; exact ⟨rfl, .inl ⟨rfl, rfl⟩⟩, HX1.out⟩
            · rw [hsg] at htk HSG
              have HNX := Lib.hid (scanGo_some (ts := ts) hlt hnsp htk)
              have hw1 : IntKind.i64.wrap ((a : Int) + 1) = (a : Int) + 1 := IntWalk.i64_in _ (by omega)
              have ha2 : (0 : Int) ≤ (a : Int) + 1 := by omega
              have ha3 : (a : Int) + 1 ≤ (l.length : Int) := by omega
              have ha4 : (a : Int) ≤ (a : Int) + 1 := by omega
              obtain ⟨k0, k1, k2, f0, f1, f2, hgz1⟩ := HB1.out.three
              have HTT : Hid ((l.take (a + 1)).drop a = (l.drop a).take 1) := Lib.hid (by rw [List.drop_take, Nat.add_sub_cancel_left])
              clear htk hnsp hlet hdig hsg
              go_wp2_with fail
              refine (HLT.out _).mono ?_
              rintro e w2 ⟨rfl, rfl⟩
              go_wp2_with fail
              refine (HDG.out _).mono ?_
              rintro e w2 ⟨rfl, rfl⟩
              go_wp2_with fail
              refine (HSG.out _).mono ?_
              rintro e w2 ⟨rfl, rfl⟩
              go_wp2_with fail
              go_region_law (fail)
              have htlen : (List.drop a (List.take (a + 1) l)).length = 1 := by rw [HTT.out, List.length_take, List.length_drop]; omega
              have HM2 : Hid (RMid w wr _ a 3 (List.drop a (List.take (a + 1) l)) ts (.slice At ts.length ct)) := Lib.hid (RMid.start HX.out HROW.out)
              rw [show ((3 : Nat) : Int) = 3 from rfl] at HM2
              have hgw2 : wr.heap.size < (wr.alloc (.cells #[.int .i64 3, .int .i64 (a : Int), str (List.drop a (List.take (a + 1) l))] 36)).drew.heap.size := by simp
              generalize (wr.alloc (.cells #[.int .i64 3, .int .i64 (a : Int), str (List.drop a (List.take (a + 1) l))] 36)).drew = v2 at *
              generalize List.drop a (List.take (a + 1) l) = t at *
              clear k0 k1 k2 f0 f1 f2 hgz1
              have HTL := Lib.hid htlen
              obtain ⟨k0, k1, k2, f0, f1, f2, _⟩ := HM2.out.blk.three
              have hts : ts.length ≤ 400 := by omega
              have hb1 : ts.length + 1 ≤ maxLen := by unfold maxLen; omega
              have hb2 : (ts.length + 1) * 32 ≤ 140737488355328 := by omega
              have HBB1 := Lib.hid hb1
              have HBB2 := Lib.hid hb2
              have hb3 : w.heap.size ≤ (v2.alloc (.cells #[.int .i64 3, .int .i64 (a : Int), str t] 36)).heap.size := by have := HM2.out.ext.size; simp; omega
              have HBB3 := Lib.hid hb3
              have HRO : Hid ((v2.alloc (.cells #[.int .i64 3, .int .i64 (a : Int), str t] 36)).ownsRow w.heap.size 36 3 (.slice At ts.length ct) ts.length (toksC ts)) := Lib.hid (ownsRow_below HM2.out.row (fun g _ hg => Below.heap_alloc _ _ g hg))
              have HNW := Lib.hid (news3 v2 36 (.int .i64 3) (.int .i64 (a : Int)) (str t))
              have hw2 : IntKind.i64.wrap ((a : Int) + (t.length : Int)) = (a : Int) + (t.length : Int) := IntWalk.i64_in _ (by omega)
              clear hb1 hb2 hb3
              go_wp2_with (at_builtin; go_must (refine wpList_append_own _ rfl _ _ 26 rfl w.heap.size 36 i0 _ 3 32 Tryd.underlying26 hi hz0 hz1 hz2 rfl (by decide) _ ts.length (toksC ts) rfl HRO.out ⟨v2.heap.size, 0, none⟩ 1 1 [.int .i64 3, .int .i64 (a : Int), str t] rfl rfl HNW.out (by simp [Value.oneCell', str]) HBB1.out HBB2.out HBB3.out ?_; intro v' w' hown hgr _; have HD := Lib.hid (HM2.out.done _ hgw2 hown hgr); obtain ⟨A', c', rfl⟩ := ownsRow_shape hown; obtain ⟨m0, m1, m2, _⟩ := HD.out.1.three; clear hown hgr))
              go_wp2_with fail
              have HMV9 := Lib.hid (HMV.out _ HD.out.2.2)
              go_roundg (l.length - (a + 1))
              case rel => exact ⟨a + 1, ts ++ [⟨3, a, t⟩], _, rfl, rfl, by go_num, by omega, by rw [List.length_append, List.length_singleton]; omega, HD.out.2.1, HD.out.2.2, HMV9.out, by rw [HTT.out, ← HNX.out]; exact HGO.out⟩
              case measure => rw [HGG.out]; omega
          · rw [hdig] at HDG
            have htk := tok_digit hlt hlet hdig
            have HRW := Lib.hid (fun W => rnumber_any W (l.drop a) (by rw [List.length_drop]; omega))
            have hrl := runLen_le numN (l.drop a)
            rw [List.length_drop] at hrl
            have hpos : 0 < runLen numN (l.drop a) := runLen_pos (by rw [List.length_drop]; omega) (by rw [byteAt_drop, Nat.add_zero]; unfold numN; rw [hdig]; rfl)
            generalize runLen numN (l.drop a) = n at *
            have hw1 : IntKind.i64.wrap ((a : Int) + (n : Int)) = (a : Int) + (n : Int) := IntWalk.i64_in _ (by omega)
            have ha2 : (0 : Int) ≤ (a : Int) + (n : Int) := by omega
            have ha3 : (a : Int) + (n : Int) ≤ (l.length : Int) := by omega
            have ha4 : (a : Int) ≤ (a : Int) + (n : Int) := by omega
            obtain ⟨k0, k1, k2, f0, f1, f2, hgz1⟩ := HB1.out.three
            have HTT := Lib.hid (rpos (l := l) (a := a) (n := n) (by omega))
            go_wp2_with fail
            refine (HLT.out _).mono ?_
            rintro e w2 ⟨rfl, rfl⟩
            go_wp2_with fail
            refine (HDG.out _).mono ?_
            rintro e w2 ⟨rfl, rfl⟩
            go_wp2_with fail
            go_region_law (go_simp; go_at_call 24; refine (HRW.out _).mono ?_; rintro e w3 ⟨rfl, rfl⟩)
            rw [← HTT.out] at htk
            have htlen : (List.drop a (List.take ((a : Int) + (n : Int)).toNat l)).length = n := by rw [HTT.out, List.length_take, List.length_drop]; omega
            have HM2 : Hid (RMid w wr _ a 1 (List.drop a (List.take ((a : Int) + (n : Int)).toNat l)) ts (.slice At ts.length ct)) := Lib.hid (RMid.start HX.out HROW.out)
            rw [show ((1 : Nat) : Int) = 1 from rfl] at HM2
            have hgw2 : wr.heap.size < (wr.alloc (.cells #[.int .i64 1, .int .i64 (a : Int), str (List.drop a (List.take ((a : Int) + (n : Int)).toNat l))] 36)).drew.heap.size := by simp
            generalize (wr.alloc (.cells #[.int .i64 1, .int .i64 (a : Int), str (List.drop a (List.take ((a : Int) + (n : Int)).toNat l))] 36)).drew = v2 at *
            generalize List.drop a (List.take ((a : Int) + (n : Int)).toNat l) = t at *
            clear k0 k1 k2 f0 f1 f2 hgz1
            obtain ⟨q0, q1, q2, _⟩ := HM2.out.blk.three
            have HTL := Lib.hid htlen
            have HP := Lib.hid (fun W => rparse7_any W t)
            by_cases hc0 : code7 t = 0
            · rw [if_pos hc0] at htk
              have HNX := Lib.hid (scanGo_some (ts := ts) hlt hnsp htk)
              have HC := Lib.hid hc0
              clear htk hnsp hlet hdig hc0
              go_wp2_with fail
              refine (HP.out _).mono ?_
              rintro e w5 ⟨v5, rfl, hr5, hx5⟩
              obtain ⟨b5, n5, A5, c5, n6, A6, c6, rfl⟩ := hr5.shape
              have HM3 := Lib.hid (HM2.out.more (hx5.alloc (.cells #[.bool b5, .slice A5 n5 c5, .slice A6 n6 c6] 45)))
              have hgw3 : wr.heap.size < (w5.alloc (.cells #[.bool b5, .slice A5 n5 c5, .slice A6 n6 c6] 45)).heap.size := by have := hx5.size; simp; omega
              clear hr5 hx5 q0 q1 q2
              rw [HC.out]
              go_upto_region 18 with fail
              generalize w5.alloc (.cells #[.bool b5, .slice A5 n5 c5, .slice A6 n6 c6] 45) = v3 at *
              obtain ⟨k0, k1, k2, f0, f1, f2, _⟩ := HM3.out.blk.three
              have hts : ts.length ≤ 400 := by omega
              have hb1 : ts.length + 1 ≤ maxLen := by unfold maxLen; omega
              have hb2 : (ts.length + 1) * 32 ≤ 140737488355328 := by omega
              have HBB1 := Lib.hid hb1
              have HBB2 := Lib.hid hb2
              have hb3 : w.heap.size ≤ (v3.alloc (.cells #[.int .i64 1, .int .i64 (a : Int), str t] 36)).heap.size := by have := HM3.out.ext.size; simp; omega
              have HBB3 := Lib.hid hb3
              have HRO : Hid ((v3.alloc (.cells #[.int .i64 1, .int .i64 (a : Int), str t] 36)).ownsRow w.heap.size 36 3 (.slice At ts.length ct) ts.length (toksC ts)) := Lib.hid (ownsRow_below HM3.out.row (fun g _ hg => Below.heap_alloc _ _ g hg))
              have HNW := Lib.hid (news3 v3 36 (.int .i64 1) (.int .i64 (a : Int)) (str t))
              have hw2 : IntKind.i64.wrap ((a : Int) + (t.length : Int)) = (a : Int) + (t.length : Int) := IntWalk.i64_in _ (by omega)
              clear hb1 hb2 hb3
              go_wp2_with (at_builtin; go_must (refine wpList_append_own _ rfl _ _ 26 rfl w.heap.size 36 i0 _ 3 32 Tryd.underlying26 hi hz0 hz1 hz2 rfl (by decide) _ ts.length (toksC ts) rfl HRO.out ⟨v3.heap.size, 0, none⟩ 1 1 [.int .i64 1, .int .i64 (a : Int), str t] rfl rfl HNW.out (by simp [Value.oneCell', str]) HBB1.out HBB2.out HBB3.out ?_; intro v' w' hown hgr _; have HD := Lib.hid (HM3.out.done _ hgw3 hown hgr); obtain ⟨A', c', rfl⟩ := ownsRow_shape hown; obtain ⟨m0, m1, m2, _⟩ := HD.out.1.three; clear hown hgr))
              go_wp2_with fail
              have HMV9 := Lib.hid (HMV.out _ HD.out.2.2)
              go_roundg (l.length - (a + n))
              case rel => exact ⟨a + n, ts ++ [⟨1, a, t⟩], _, rfl, rfl, by go_num, by omega, by rw [List.length_append, List.length_singleton]; omega, HD.out.2.1, HD.out.2.2, HMV9.out, by rw [HTT.out, ← HNX.out]; exact HGO.out⟩
              case measure => rw [HGG.out]; omega
            · rw [if_neg hc0] at htk
              have HR : Hid (scanT l = ([], a, 6)) := Lib.hid (by rw [← HGO.out]; exact scanGo_none hlt hnsp htk)
              have hcn : ((code7 t : Int) != 0) = true := by rw [bne_iff_ne]; omega
              clear htk hnsp hlet hdig hc0
              go_wp2_with fail
              refine (HP.out _).mono ?_
              rintro e w5 ⟨v5, rfl, hr5, hx5⟩
              obtain ⟨b5, n5, A5, c5, n6, A6, c6, rfl⟩ := hr5.shape
              have HM3 := Lib.hid (HM2.out.more (hx5.alloc (.cells #[.bool b5, .slice A5 n5 c5, .slice A6 n6 c6] 45)))
              have hgw3 : wr.heap.size < (w5.alloc (.cells #[.bool b5, .slice A5 n5 c5, .slice A6 n6 c6] 45)).heap.size := by have := hx5.size; simp; omega
              clear hr5 hx5 q0 q1 q2
              go_wp2_with fail
              go_ret3
              exact ⟨_, by rw [HR.out]; rfl, by rw [HR.out]; exact ⟨rfl, .inl ⟨rfl, rfl⟩⟩, HM3.out.ext⟩
        · rw [hlet] at HLT
          have htk := tok_letter hlt hlet
          have hrw : refWord (l.drop a) = runLen wordN (l.drop a) := by
            unfold refWord
            rw [if_pos (by rw [byteAt_drop, Nat.add_zero]; exact hlet)]
          have HRW := Lib.hid (fun W => rword_any W (l.drop a) (by rw [List.length_drop]; omega))
          rw [hrw] at HRW
          have hrl := runLen_le wordN (l.drop a)
          rw [List.length_drop] at hrl
          have hpos : 0 < runLen wordN (l.drop a) := runLen_pos (by rw [List.length_drop]; omega) (by rw [byteAt_drop, Nat.add_zero]; unfold wordN; rw [hlet]; rfl)
          clear hrw
          generalize runLen wordN (l.drop a) = n at *
          have hw1 : IntKind.i64.wrap ((a : Int) + (n : Int)) = (a : Int) + (n : Int) := IntWalk.i64_in _ (by omega)
          have ha2 : (0 : Int) ≤ (a : Int) + (n : Int) := by omega
          have ha3 : (a : Int) + (n : Int) ≤ (l.length : Int) := by omega
          have ha4 : (a : Int) ≤ (a : Int) + (n : Int) := by omega
          obtain ⟨k0, k1, k2, f0, f1, f2, hgz1⟩ := HB1.out.three
          have HTT := Lib.hid (rpos (l := l) (a := a) (n := n) (by omega))
          go_wp2_with fail
          refine (HLT.out _).mono ?_
          rintro e w2 ⟨rfl, rfl⟩
          go_wp2_with fail
          go_region_law (go_simp; go_at_call 22; refine (HRW.out _).mono ?_; rintro e w3 ⟨rfl, rfl⟩)
          have htlen : (List.drop a (List.take ((a : Int) + (n : Int)).toNat l)).length = n := by rw [HTT.out, List.length_take, List.length_drop]; omega
          have HM2 : Hid (RMid w wr _ a 2 (List.drop a (List.take ((a : Int) + (n : Int)).toNat l)) ts (.slice At ts.length ct)) := Lib.hid (RMid.start HX.out HROW.out)
          rw [show ((2 : Nat) : Int) = 2 from rfl] at HM2
          have hgw2 : wr.heap.size < (wr.alloc (.cells #[.int .i64 2, .int .i64 (a : Int), str (List.drop a (List.take ((a : Int) + (n : Int)).toNat l))] 36)).drew.heap.size := by simp
          generalize (wr.alloc (.cells #[.int .i64 2, .int .i64 (a : Int), str (List.drop a (List.take ((a : Int) + (n : Int)).toNat l))] 36)).drew = v2 at *
          generalize List.drop a (List.take ((a : Int) + (n : Int)).toNat l) = t at *
          clear k0 k1 k2 f0 f1 f2 hgz1
          obtain ⟨q0, q1, q2, _⟩ := HM2.out.blk.three
          have HTL := Lib.hid htlen
          rcases Nat.lt_or_ge 24 n with h24 | h24
          · rw [if_neg (by omega)] at htk
            have HR : Hid (scanT l = ([], a, 6)) := Lib.hid (by rw [← HGO.out]; exact scanGo_none hlt hnsp htk)
            have h24i : (24 : Int) < (t.length : Int) := by omega
            clear htk hnsp hlet htlen
            go_wp2_with fail
            go_ret3
            exact ⟨_, by rw [HR.out]; rfl, by rw [HR.out]; exact ⟨rfl, .inl ⟨rfl, rfl⟩⟩, HM2.out.ext⟩
          · rw [if_pos h24] at htk
            have HNX := Lib.hid (scanGo_some (ts := ts) hlt hnsp htk)
            have h24i : ¬ (24 : Int) < (t.length : Int) := by omega
            clear htk hnsp hlet q0 q1 q2
            obtain ⟨k0, k1, k2, f0, f1, f2, _⟩ := HM2.out.blk.three
            have hts : ts.length ≤ 400 := by omega
            have hb1 : ts.length + 1 ≤ maxLen := by unfold maxLen; omega
            have hb2 : (ts.length + 1) * 32 ≤ 140737488355328 := by omega
            have HBB1 := Lib.hid hb1
            have HBB2 := Lib.hid hb2
            have hb3 : w.heap.size ≤ (v2.alloc (.cells #[.int .i64 2, .int .i64 (a : Int), str t] 36)).heap.size := by have := HM2.out.ext.size; simp; omega
            have HBB3 := Lib.hid hb3
            have HRO : Hid ((v2.alloc (.cells #[.int .i64 2, .int .i64 (a : Int), str t] 36)).ownsRow w.heap.size 36 3 (.slice At ts.length ct) ts.length (toksC ts)) := Lib.hid (ownsRow_below HM2.out.row (fun g _ hg => Below.heap_alloc _ _ g hg))
            have HNW := Lib.hid (news3 v2 36 (.int .i64 2) (.int .i64 (a : Int)) (str t))
            have hw2 : IntKind.i64.wrap ((a : Int) + (t.length : Int)) = (a : Int) + (t.length : Int) := IntWalk.i64_in _ (by omega)
            clear hb1 hb2 hb3
            go_wp2_with (at_builtin; go_must (refine wpList_append_own _ rfl _ _ 26 rfl w.heap.size 36 i0 _ 3 32 Tryd.underlying26 hi hz0 hz1 hz2 rfl (by decide) _ ts.length (toksC ts) rfl HRO.out ⟨v2.heap.size, 0, none⟩ 1 1 [.int .i64 2, .int .i64 (a : Int), str t] rfl rfl HNW.out (by simp [Value.oneCell', str]) HBB1.out HBB2.out HBB3.out ?_; intro v' w' hown hgr _; have HD := Lib.hid (HM2.out.done _ hgw2 hown hgr); obtain ⟨A', c', rfl⟩ := ownsRow_shape hown; obtain ⟨m0, m1, m2, _⟩ := HD.out.1.three; clear hown hgr))
            go_wp2_with fail
            have HMV9 := Lib.hid (HMV.out _ HD.out.2.2)
            go_roundg (l.length - (a + n))
            case rel => exact ⟨a + n, ts ++ [⟨2, a, t⟩], _, rfl, rfl, by go_num, by omega, by rw [List.length_append, List.length_singleton]; omega, HD.out.2.1, HD.out.2.2, HMV9.out, by rw [HTT.out, ← HNX.out]; exact HGO.out⟩
            case measure => rw [HGG.out]; omega
    · obtain rfl : a = l.length := by omega
      have HR : Hid (scanT l = (ts, l.length, 0)) := Lib.hid (by rw [← HGO.out]; exact scanGo_end (Nat.le_refl _))
      clear hmv
      go_wp2_with fail
      go_ret3
      refine ⟨_, by rw [HR.out]; rfl, ?_, HX.out⟩
      rw [HR.out]
      exact HROW.out
set_option maxRecDepth 100000 in
theorem rscan_long (w : World) (l : List UInt8) (h : 400 < l.length) : Calls Tryd.prog 8 #[str l] w (ScanRes w l) := by
  have hc : scanT l = ([], 0, 7) := if_pos h
  have h' : (400 : Int) < (l.length : Int) := by omega
  have HC := Lib.hid hc
  clear h hc
  go_enter Tryd.func8, Tryd.ntmps8
  go_wp2_with fail
  go_ret3
  exact ⟨.slice none 0 0, by rw [HC.out]; rfl, by rw [HC.out]; exact ⟨rfl, .inl ⟨rfl, rfl⟩⟩, Ext.refl w⟩
theorem rscan_any (w : World) (l : List UInt8) (hm : MaxV w) : Calls Tryd.prog 8 #[str l] w (ScanRes w l) := by
  rcases Nat.lt_or_ge 400 l.length with hl | hl
  · exact rscan_long w l hl
  · exact rscan_short w l hm hl
end Big
end Go.Proofs.YtelgknpdiaafaaaDoor
/- The reference's Same. -/
namespace Go.Proofs.YtelgknpdiaafaaaDoor
namespace Big
open Go.RowKit
/-- A value reads as a list of tokens. -/
def TokRow (w : World) (v : Value) (ts : List Tok) : Prop := ∃ B, w.ownsRow B 36 3 v ts.length (toksC ts)
theorem TokRow.ext {w w' : World} {v : Value} {ts : List Tok} (h : TokRow w v ts) (hx : Ext w w') : TokRow w' v ts := by
  obtain ⟨B, h⟩ := h
  exact ⟨B, ownsRow_below h (fun g _ hg => Below.block hx g hg)⟩
theorem toksC_get (ts : List Tok) (i j : Nat) (hi : i < ts.length) (hj : j < 3) : (toksC ts)[i * 3 + j]? = (tokC ts[i])[j]? := by
  induction ts generalizing i with
  | nil => simp at hi
  | cons t ts ih =>
    have hl : (tokC t).length = 3 := rfl
    unfold toksC at *
    rw [List.flatMap_cons]
    cases i with
    | zero =>
      rw [Nat.zero_mul, Nat.zero_add, List.getElem?_append_left (by omega)]
      rfl
    | succ i =>
      rw [List.getElem?_append_right (by omega), hl, show (i + 1) * 3 + j - 3 = i * 3 + j by omega, ih i (by simpa using hi)]
      rfl
theorem TokRow.cells {w : World} {v : Value} {ts : List Tok} (h : TokRow w v ts) : ∃ A c, v = .slice A ts.length c ∧ (0 < ts.length → ∃ g, A = some ⟨g, 0, none⟩ ∧ ∀ i (hi : i < ts.length), w.cell? ⟨g, i * 3, none⟩ = some (.int .i64 (ts[i].kind : Int)) ∧ w.cell? ⟨g, i * 3 + 1, none⟩ = some (.int .i64 (ts[i].at_ : Int)) ∧ w.cell? ⟨g, i * 3 + 2, none⟩ = some (str ts[i].text)) := by
  obtain ⟨B, h⟩ := h
  rcases h.2 with ⟨h1, h2⟩ | ⟨g, cap, cur, rfl, _⟩
  · exact ⟨none, 0, by rw [h1, h2], fun h3 => by omega⟩
  · refine ⟨_, _, rfl, fun _ => ⟨g, rfl, fun i hi => ⟨?_, ?_, ?_⟩⟩⟩
    · have h3 := h.cellAt (i * 3 + 0) (by omega)
      rw [toksC_get ts i 0 hi (by omega)] at h3
      exact h3
    · have h3 := h.cellAt (i * 3 + 1) (by omega)
      rw [toksC_get ts i 1 hi (by omega)] at h3
      exact h3
    · have h3 := h.cellAt (i * 3 + 2) (by omega)
      rw [toksC_get ts i 2 hi (by omega)] at h3
      exact h3
set_option maxRecDepth 100000 in
theorem rsame_any (w : World) (v u : Value) (ts : List Tok) (h : TokRow w v ts) (h' : TokRow w u ts) (hn : ts.length ≤ 1000000) : Calls Tryd.prog 9 #[v, u] w fun e w' => e = .returned (.bool true) ∧ Dr w w' := by
  obtain ⟨A, c, rfl, H1⟩ := h.cells
  obtain ⟨A', c', rfl, H2⟩ := h'.cells
  have HH1 := Lib.hid H1
  have HH2 := Lib.hid H2
  clear H1 H2 h h'
  obtain ⟨n, hnn⟩ : ∃ n, n = ts.length := ⟨_, rfl⟩
  have HN := Lib.hid hnn
  rw [← hnn] at hn
  rw [← hnn]
  clear hnn
  go_enter Tryd.func9, Tryd.ntmps9
  go_wp2_with fail
  go_loopw [8] (fun s8 wr => ∃ i : Nat, i ≤ n ∧ s8 = .int .i64 (i : Int) ∧ Dr w wr) (fun s8 _ => n - (intOf s8).toNat)
  case atStart => exact ⟨0, Nat.zero_le _, rfl, Dr.refl w⟩
  case round =>
    obtain ⟨i, hi, rfl, hd⟩ := hrel
    have HD := Lib.hid hd
    by_cases hlt : i < n
    · have hit : i < ts.length := by rw [← HN.out]; exact hlt
      obtain ⟨g, rfl, hc⟩ := HH1.out (by omega)
      obtain ⟨g', rfl, hc'⟩ := HH2.out (by omega)
      obtain ⟨k0, k1, k2⟩ := hc i hit
      obtain ⟨k3, k4, k5⟩ := hc' i hit
      rw [← hd.cell] at k0 k1 k2 k3 k4 k5
      clear hc hc' hd
      have hst : str ts[i].text = .string ⟨ts[i].text.toArray⟩ := rfl
      rw [hst] at k2 k5
      clear hst
      generalize (⟨ts[i].text.toArray⟩ : ByteArray) = t at *
      generalize ts[i].at_ = a at *
      generalize ts[i].kind = k at *
      have hd0 : decide ((0 : Int) ≤ (i : Int)) = true := by simp
      have hnb : ((n : Int) != (n : Int)) = false := by simp
      go_wp2_with fail
      go_quiet (fail)
      go_wp2_with fail
      go_roundw
      case rel => exact ⟨i + 1, by omega, by go_num, HD.out.drewN _⟩
      case measure => simp [intOf]; omega
    · obtain rfl : i = n := by omega
      clear hd
      have hne : ((i : Int) == (i : Int)) = true := by simp
      go_wp2_with fail
      go_ret
      exact ⟨rfl, HD.out⟩
end Big
end Go.Proofs.YtelgknpdiaafaaaDoor
/- LexerLimits. -/
namespace Go.Proofs.YtelgknpdiaafaaaDoor
namespace Big
open Go.RowKit
theorem TokRow.of {w : World} {B : Nat} {v : Value} {ts : List Tok} (h : w.ownsRow B 36 3 v ts.length (toksC ts)) : TokRow w v ts := ⟨B, h⟩
theorem scanF_len (f : Nat) (l : List UInt8) : ∀ (a : Nat) (ts : List Tok), ts.length ≤ a → (scanF f l a ts).1.length ≤ a + f * (l.length + 1) := by
  induction f with
  | zero => intro a ts _; simp [scanF]
  | succ f ih =>
    intro a ts h
    rw [Nat.add_mul, Nat.one_mul]
    unfold scanF
    split
    · simp; omega
    · split
      · have := ih (a + 1) ts (by omega)
        omega
      · split
        · simp
        · rename_i k n ht
          have h1 := tokLen_pos ht
          rw [List.length_drop] at h1
          have := ih (a + n) (ts ++ [⟨k, a, (l.drop a).take n⟩]) (by rw [List.length_append, List.length_singleton]; omega)
          omega
theorem scanT_len (l : List UInt8) : (scanT l).1.length ≤ 1000000 := by
  unfold scanT
  split
  · simp
  · have := scanF_len (l.length + 1) l 0 [] (by simp)
    have h2 : (l.length + 1) * (l.length + 1) ≤ 401 * 401 := Nat.mul_le_mul (by omega) (by omega)
    omega
theorem TokRow.dr {w w' : World} {v : Value} {ts : List Tok} (h : TokRow w v ts) (hd : Dr w w') : TokRow w' v ts := by
  obtain ⟨B, h⟩ := h
  exact ⟨B, ownsRow_below h (fun g _ _ => by rw [hd.heap])⟩
theorem Dr.ext {w w' : World} (h : Dr w w') : Ext w w' := h.below w.heap.size
set_option maxHeartbeats 2000000 in
set_option maxRecDepth 100000 in
theorem lexerLimits_any (w : World) (n : Int) (d : Nat) (hn1 : -9223372036854775808 ≤ n) (hn2 : n ≤ 9223372036854775807) (hd : d < 256) (hm : MaxV w) :
    Calls Tryd.prog 3 #[.int .i64 n, .int .u8 (d : Int)] w fun e w' => e = .returned (.bool true) ∧ Ext w w' := by
  have HAW := Lib.hid (awake18_any w hm)
  have HM := Lib.hid hm
  have HM5 := Lib.hid (fun W => mod_any W n 5 hn1 hn2 (by decide) (by decide))
  have HM4 := Lib.hid (fun W => mod_any W n 4 hn1 hn2 (by decide) (by decide))
  have hm1 := Int.emod_nonneg n (show (5 : Int) ≠ 0 by decide)
  have hm2 := Int.emod_lt_of_pos n (show (0 : Int) < 5 by decide)
  have hp1 := Int.emod_nonneg n (show (4 : Int) ≠ 0 by decide)
  have hp2 := Int.emod_lt_of_pos n (show (0 : Int) < 4 by decide)
  generalize n % 5 = m at *
  generalize n % 4 = p at *
  obtain ⟨m, rfl⟩ := Int.eq_ofNat_of_zero_le hm1
  obtain ⟨p, rfl⟩ := Int.eq_ofNat_of_zero_le hp1
  obtain ⟨sz, hsz⟩ : ∃ sz : Nat, sz = 398 + m := ⟨_, rfl⟩
  obtain ⟨sw, hsw⟩ : ∃ sw : Nat, sw = 23 + p := ⟨_, rfl⟩
  have hmk := run_make8 sz (by omega)
  have hmk2 := run_make8 sw (by omega)
  rw [show ((sz : Nat) : Int) = 398 + (m : Int) by omega] at hmk
  rw [show ((sw : Nat) : Int) = 23 + (p : Int) by omega] at hmk2
  have hsz4 : sz ≤ 402 := by omega
  have hsw4 : sw ≤ 26 := by omega
  obtain ⟨x, hx⟩ : ∃ x : UInt8, x = [43, 97, 49, 32].getD ((d : Int) % 4).toNat 0 := ⟨_, rfl⟩
  have hix : ∀ W : World, (Instr.index 9 (.string ⟨#[43, 97, 49, 32]⟩) (.int .u8 ((d : Int) % 4))).run Tryd.prog W = .ok (.int .u8 (x.toNat : Int)) W := fun W => by
    have h1 := run_idx_str [43, 97, 49, 32] .u8 ((d : Int) % 4) W
    rw [if_pos (by simp; omega)] at h1
    rw [hx]
    exact h1
  clear hm hm1 hp1 hsz hsw hx
  go_enter Tryd.func3, Tryd.ntmps3
  go_wp2_with fail
  refine HAW.out.mono ?_
  rintro e w1 ⟨rfl, hx1⟩
  have HX1 := Lib.hid hx1
  clear hx1
  go_wp2_with fail
  refine (HM5.out _).mono ?_
  rintro e w2 ⟨rfl, rfl⟩
  go_wp2_with fail
  clear hmk
  have hg := HX1.out.size
  have HB0 := Lib.hid (Blk.new w1 5 (cells8 (List.replicate sz 0)))
  have HX2 := Lib.hid (HX1.out.alloc (.cells (cells8 (List.replicate sz 0)) 5))
  generalize w1.heap.size = gb at *
  go_loopw [27] (fun s27 wr => ∃ (k : Nat) (bs : List UInt8), k ≤ sz ∧ s27 = .int .i64 (k : Int) ∧ bs.length = sz ∧ Blk wr gb 5 (cells8 bs) ∧ Ext w wr) (fun s27 _ => sz - (intOf s27).toNat)
  case atStart => exact ⟨0, List.replicate sz 0, Nat.zero_le _, rfl, by simp, HB0.out, HX2.out⟩
  case round =>
    obtain ⟨k, bs, hk, rfl, hbl, hb, hx⟩ := hrel
    have HBL := Lib.hid hbl
    have HX := Lib.hid hx
    by_cases hlt : k < sz
    · have hst := hb.cell k
      have hfz := hb.frozen k
      rw [get_cells8 _ _ (by omega)] at hst
      generalize bs[k] = b0 at hst
      have hset := hb.set_ k (d8 x)
      rw [set_cells8] at hset
      have HSET := Lib.hid hset
      have HXS := Lib.hid (hx.setCell (p := ⟨gb, k, none⟩) hg (d8 x))
      clear hb hx hset hbl
      simp only [d8] at hst HSET HXS
      go_wp2_with fail
      go_roundw
      case rel => exact ⟨k + 1, _, by omega, by go_num, by simp [HBL.out], HSET.out, HXS.out⟩
      case measure => simp [intOf]; omega
    · obtain rfl : k = sz := by omega
      have HBB := Lib.hid hb
      clear hb hx hix hbl
      go_wp2_with fail
      refine (HM4.out _).mono ?_
      rintro e w2 ⟨rfl, rfl⟩
      go_wp2_with fail
      clear hmk2
      have hgw := HX.out.size
      have hgl := HBB.out.lt
      have HB9 := Lib.hid (Blk.new wr 5 (cells8 (List.replicate sw 0)))
      have HX9 : Hid (Ext wr (wr.alloc (.cells (cells8 (List.replicate sw 0)) 5))) := Lib.hid ((Ext.refl wr).alloc _)
      generalize hgwe : wr.heap.size = gw at *
      have hgwl : wr.heap.size ≤ gw := by omega
      clear hgwe
      generalize wr = wq at *
      go_loopw [43] (fun s43 wr => ∃ (j : Nat) (qs : List UInt8), j ≤ sw ∧ s43 = .int .i64 (j : Int) ∧ qs.length = sw ∧ Blk wr gw 5 (cells8 qs) ∧ Ext wq wr) (fun s43 _ => sw - (intOf s43).toNat)
      case atStart => exact ⟨0, List.replicate sw 0, Nat.zero_le _, rfl, by simp, HB9.out, HX9.out⟩
      case round =>
        obtain ⟨j, qs, hj, rfl, hql, hq, hxq⟩ := hrel
        have HQL := Lib.hid hql
        have HXQ := Lib.hid hxq
        by_cases hjt : j < sw
        · have hst := hq.cell j
          have hfz := hq.frozen j
          rw [get_cells8 _ _ (by omega)] at hst
          generalize qs[j] = q0 at hst
          have hset := hq.set_ j (d8 113)
          rw [set_cells8] at hset
          have HSET := Lib.hid hset
          have HXS := Lib.hid (hxq.setCell (p := ⟨gw, j, none⟩) hgwl (d8 113))
          have hd113 : d8 113 = .int .u8 113 := rfl
          rw [hd113] at HSET HXS
          clear hq hxq hset hql hd113
          simp only [d8] at hst
          go_wp2_with fail
          go_roundw
          case rel => exact ⟨j + 1, _, by omega, by go_num, by simp [HQL.out], HSET.out, HXS.out⟩
          case measure => simp [intOf]; omega
        · obtain rfl : j = sw := by omega
          have harr := Arr8.block hq (by omega)
          rw [hql] at harr
          have hst := run_string8 harr
          have harr2 := Arr8.block (HBB.out.ext hxq) (by rw [HBL.out]; omega)
          rw [HBL.out] at harr2
          have hst2 := run_string8 harr2
          have hadd : ∀ W : World, (binOp .add 9 (.string ⟨#[49, 43]⟩) (str qs)).run Tryd.prog W = .ok (str (49 :: 43 :: qs)) W := fun W => run_add_str [49, 43] qs (by rw [hql]; simp; omega) W
          have hqm : qs.length ≤ 26 := by omega
          have HQM := Lib.hid hqm
          clear hq hxq harr harr2 hql hqm
          go_wp2_with fail
          obtain ⟨sv, hsv⟩ : ∃ sv : List (List UInt8), sv = [bs, qs, 49 :: 43 :: qs] := ⟨_, rfl⟩
          have hn3 : sv.length = 3 := by rw [hsv]; rfl
          have harr : ArrS (wr.alloc (.cells (sv.map str).toArray 9)) (.slice (some ⟨wr.heap.size, 0, none⟩) sv.length sv.length) sv :=
            (OwnS.block (B := wr.heap.size) (ls := sv) (Blk.new wr 9 _) (Nat.le_refl _) (by omega)).arr
          have hcs : (sv.map str).toArray = #[str bs, str qs, str (49 :: 43 :: qs)] := by rw [hsv]; rfl
          have HXF := Lib.hid (((HX.out.trans HXQ.out)).alloc (.cells (sv.map str).toArray 9))
          rw [hcs] at harr HXF
          have hcw : ∀ i (hi : i < sv.length), (wr.alloc (.cells #[str bs, str qs, str (49 :: 43 :: qs)] 9)).cell? ⟨wr.heap.size, i, none⟩ = some (str sv[i]) := fun i hi => by
            have h1 := (Blk.new wr 9 (sv.map str).toArray).cell i
            rw [hcs] at h1
            rw [h1, ← hcs, List.getElem?_toArray]
            exact map_str_get hi
          have HCW := Lib.hid hcw
          have HN3 := Lib.hid hn3
          have hwz : wr.heap.size < (wr.alloc (.cells #[str bs, str qs, str (49 :: 43 :: qs)] 9)).heap.size := by simp
          clear hcw hsv hn3 hcs harr hst hst2 hadd
          generalize wr.alloc (.cells #[str bs, str qs, str (49 :: 43 :: qs)] 9) = wa at *
          generalize wr.heap.size = ga at *
          generalize wr = wb at *
          have HMV := Lib.hid (fun W hx => HM.out.ext (w' := W) (HXF.out.trans hx))
          go_loopw [59] (fun s59 wr => ∃ i : Nat, i ≤ 3 ∧ s59 = .int .i64 (i : Int) ∧ Ext wa wr) (fun s59 _ => 3 - (intOf s59).toNat)
          case atStart => exact ⟨0, Nat.zero_le _, rfl, Ext.refl _⟩
          case round =>
            obtain ⟨i, hi, rfl, hx⟩ := hrel
            have HX9 := Lib.hid hx
            by_cases hlt : i < 3
            · have hi3 : i < sv.length := by rw [HN3.out]; exact hlt
              have hld := (hx.cell hwz).trans (HCW.out i hi3)
              clear hx
              generalize sv[i] = x at *
              have HLEN := Lib.hid (scanT_len x)
              have K1 := Lib.hid (fun W hx => scan_any W x (HMV.out W hx))
              have K2 := Lib.hid (fun W hx => rscan_any W x (HMV.out W hx))
              unfold ScanRes at K1 K2
              generalize (scanT x).2.1 = sk at *
              generalize (scanT x).2.2 = se at *
              generalize (scanT x).1 = ts at *
              have q1 : ((sk : Int) != (sk : Int)) = false := by simp
              have q2 : ((se : Int) != (se : Int)) = false := by simp
              go_wp2_with fail
              refine (K1.out _ HX9.out).mono ?_
              rintro e w5 ⟨v5, rfl, hr5, hx5⟩
              obtain ⟨A5, c5, rfl⟩ := ownsRow_shape hr5
              have HR5 := Lib.hid (TokRow.of hr5)
              have HX5 := Lib.hid (HX9.out.trans hx5)
              clear hr5 hx5
              go_wp2_with fail
              refine (K2.out _ HX5.out).mono ?_
              rintro e w6 ⟨v6, rfl, hr6, hx6⟩
              obtain ⟨A6, c6, rfl⟩ := ownsRow_shape hr6
              have HSM := Lib.hid (fun W hd => rsame_any W _ _ ts ((HR5.out.ext hx6).dr hd) ((TokRow.of hr6).dr hd) HLEN.out)
              have HX6 := Lib.hid (HX5.out.trans hx6)
              clear hr6 hx6
              go_wp2_with fail
              refine (HSM.out _ (Dr.refl w6)).mono ?_
              rintro e w7 ⟨rfl, hd7⟩
              have HX7 := Lib.hid (HX6.out.trans hd7.ext)
              clear hd7
              go_wp2_with fail
              go_roundw
              case rel => exact ⟨i + 1, by omega, by go_num, HX7.out⟩
              case measure => simp [intOf]; omega
            · obtain rfl : i = 3 := by omega
              clear hx
              go_wp2_with fail
              go_ret
              exact ⟨rfl, HXF.out.trans HX9.out⟩
end Big
end Go.Proofs.YtelgknpdiaafaaaDoor
/- The frame round a law's walk: the arguments opened; behind the call they read as they did. -/
namespace Go.Proofs.YtelgknpdiaafaaaDoor
open Go.ChangeShapes Go.WideShapes Go.ChangeAt Go.RowKit

section
variable {H : Type} {enc : TypeId × Value → H} {P : Program}
theorem trodAll_stays (hl : laidOutB P = true) {W W' : World} (hb : Big.Ext W W') : ∀ (ts : List TypeId) (vs : List Value) (ds : List (DataW H)) (ps : List MemPlace),
    (∀ t ∈ ts, P.readableRec t = true ∧ t < P.types.size) → DataW.TrodAll enc P W 0 (fun _ => true) true ts vs ds ps → (∀ x ∈ ps, x.block < W.heap.size) →
    DataW.TrodAll enc P W' 0 (fun b => decide (b < W.heap.size)) true ts vs ds ps
  | [], vs, ds, ps, _, h, _ => by
    obtain ⟨rfl, rfl, rfl⟩ := trodAll_nil h
    exact trodAll_mk0
  | t :: ts, vs, ds, ps, ht, h, hlt => by
    obtain ⟨v, vs', d, ds', p, q, rfl, rfl, rfl, h1, h2⟩ := trodAll_cons h
    exact trodAll_cons_mk (Below.trod hl (ht t (by simp)).1 (ht t (by simp)).2 h1 hb (fun x hx => hlt x (List.mem_append_left _ hx)))
      (trodAll_stays hl hb ts vs' ds' q (fun t' h' => ht t' (by simp [h'])) h2 (fun x hx => hlt x (List.mem_append_right _ hx)))

/-- What the row asks of a law that returned true and left what was there. -/
theorem post_true {f : Func} {s : ChangeSpec} {W W' : World} {args : Array Value} {ds gs : List (DataW H)} {before : List MemPlace} {tb : TypeId} (hl : laidOutB P = true)
    (hts : (f.params.toList.all fun t => P.readableRec t && decide (t < P.types.size)) = true) (hv : s.vars = []) (hr : f.resultTypes = #[tb]) (htb : P.underlying tb = some .bool)
    (hW : DataW.Whole enc P f.params.toList s.vars false W args.toList ds gs before) (hfn : s.fn H ds = { results := [.lit (.bool true)], args := ds }) (hb : Big.Ext W W') :
    s.post enc P f false true false false W args (.bool true) W' := by
  have hlt := hW.lt
  have hW' := hW
  obtain ⟨p, q, hA, hV, rfl, hfz, hnd⟩ := hW
  rw [hv] at hV
  obtain ⟨rfl, rfl⟩ := trodVars_none hV
  have hfn' : s.fn H (ds ++ []) = { results := [.lit (.bool true)], args := ds } := by rw [List.append_nil]; exact hfn
  refine ⟨ds, [], p ++ [], [], p, [], hW', ?_, ?_, ?_, hb.frame _, fun h => by cases h⟩
  · rw [hfn', hr]
    exact trodAll_mk1 (shut_bool htb _)
  · rw [hfn']
    exact trodAll_stays hl hb _ _ _ _ (fun t ht => by
      have := List.all_eq_true.1 hts t ht
      simpa using this) hA (fun x hx => hlt x (by simpa using hx))
  · rw [hfn', hv]
    rfl
end

/-- A law under its row's conditions, with the form of the world at its beginning. -/
theorem handed_and_shaped {H : Type} {enc : TypeId × Value → H} {a : Assume} {C : Checked} {os : Os} {f : FuncId} {fn : Func} {s : ChangeSpec} {conds : List PathCond} {apart fresh handsOn again : Bool} {X : World → Array Value → Prop}
    (hX : ∀ (w w' : World) (args : Array Value), w.heap = w'.heap → X w args → X w' args)
    (own : ownKnob C.prog.godebug = none) (started : os.Started) (noInit : C.prog.inits.idxOf? f = none) (hfn : C.prog.funcs[f]? = some fn)
    (witness : ∃ (w : World) (tape : Tape) (i : Input), w.os = os ∧ (w.forCall tape i).Shaped C.prog ∧ i.vars = [] ∧ Input.okWide C.prog (w.forCall tape i) .any w.heap.size f i ∧
      ((s.pre enc C.prog fn conds apart (w.forCall tape i).memory i.args ∧ X (w.forCall tape i).memory i.args) ∧ sizedMet enc C.prog fn (OpenSpec.ofChange s) apart (w.forCall tape i).memory i.args) ∧ a.holds C.prog (lone (Frame.enter C.prog f i.args .normal) [] (w.forCall tape i)))
    (contract : ∀ (W : World) (base : Nat) (args : Array Value) (ds gs : List (DataW H)) (before : List MemPlace),
      (∀ (j : Nat) t v, fn.params[j]? = some t → args[j]? = some v → Value.okWide C.prog W .any base t v) →
      DataW.Whole enc C.prog fn.params.toList s.vars apart W args.toList ds gs before →
      (DataW.weightsEach C.prog (fn.params.toList ++ s.plain.varTypes C.prog) (ds ++ gs)).all (· ≤ reachBytes) = true → X W args → W.ShapedOpen C.prog →
      Calls C.prog f args W fun e W' => ∃ v, e = .returned v ∧ s.post enc C.prog fn apart fresh handsOn again W args v W') :
    ReturnsInHanded a C os f .any (fun w args => (s.pre enc C.prog fn conds apart w args ∧ X w args) ∧ sizedMet enc C.prog fn (OpenSpec.ofChange s) apart w args) (s.post enc C.prog fn apart fresh handsOn again) := by
  refine returnsInHanded_of_calls own started noInit witness ?_
  intro w tape i _ hsh _ hok hpre hholds
  obtain ⟨_, _, _, fn', hfn', _, _, _, _, hval⟩ := hok
  have e : fn' = fn := Option.some.inj (hfn'.symm.trans hfn)
  subst e
  obtain ⟨⟨⟨ds, gs, before, hw, hc⟩, hx⟩, hz⟩ := hpre
  have hw' := DataW.Whole.of_heap (w' := w.forCall tape i) (by rfl) hw
  refine (contract (w.forCall tape i) w.heap.size i.args ds gs before hval hw' (hz.weights hw) (hX _ _ _ (by rfl) hx) hsh).mono fun e W' ⟨v, he, hp⟩ => ?_
  subst he
  exact ChangeSpec.post_blind hp

theorem laid_out : laidOutB Tryd.prog = true := by kernel_rfl
theorem own : ownKnob Tryd.prog.godebug = none := by kernel_rfl

section
variable {P : Program} {W : World}
/-- One of several variables that a row lists. -/
theorem laidVars_at : ∀ (i : Nat) (l : List (String × DataW Unit)) (ps : List MemPlace) (n : String) (d : DataW Unit), DataW.LaidVars P W l ps → l[i]? = some (n, d) →
    ∃ g t cs f p, P.globalNamed n = some g ∧ (P.globals[g]?).map (·.type) = some t ∧ W.var? P n = some cs ∧ DataW.trod (fun _ => ()) P W 0 (fun _ => true) false f t cs.toList = some (d, p)
  | i, [], ps, n, d, _, hn => by simp at hn
  | 0, x :: l, ps, n, d, h, hn => by
    simp at hn
    subst hn
    obtain ⟨g, t, cs, f, p, q, h1, h2, h3, h4, _, _⟩ := h
    exact ⟨g, t, cs, f, p, h1, h2, h3, h4⟩
  | i + 1, x :: l, ps, n, d, h, hn => by
    obtain ⟨g, t, cs, f, p, q, _, _, _, _, hs, _⟩ := h
    exact laidVars_at i l q n d hs (by simpa using hn)
theorem laid_at (i : Nat) {l : List (String × DataW Unit)} {n : String} {d : DataW Unit} (h : laidMetH P l W) (hp : (l.all fun x => x.2.handleName?.isNone) = true) (hn : l[i]? = some (n, d)) :
    ∃ g t cs f p, P.globalNamed n = some g ∧ (P.globals[g]?).map (·.type) = some t ∧ W.var? P n = some cs ∧ DataW.trod (fun _ => ()) P W 0 (fun _ => true) false f t cs.toList = some (d, p) := by
  rw [MakeChecks.laidMetH_plain _ _ _ hp] at h
  obtain ⟨ps, hv, _⟩ := h
  exact laidVars_at i l ps n d hv hn
end

section
variable {H : Type} {enc : TypeId × Value → H} {W : World} {fuel : Nat} {v : Value} {y : DataW H × List MemPlace}
theorem cellsOf_u32 : Tryd.prog.cellsOf 54 = 1 := by kernel_rfl
/-- A slice of 32-bit digits that came in. -/
theorem arr_of_trod (h : DataW.trod enc Tryd.prog W 0 (fun _ => true) true fuel 41 [v] = some y) : ∃ xs, Big.Arr W v xs := by
  rcases open_ints Tryd.underlying41 Tryd.underlying54 cellsOf_u32 h with ⟨hv, _⟩ | ⟨a, len, cap, zs, hv, _, hl, hm, hz, _, hc, hw⟩
  · injection hv with hv
    subst hv
    exact ⟨[], Big.Arr.none_ W⟩
  · injection hv with hv
    subst hv
    simp only [if_true] at hz
    refine ⟨(zs.take len).map Int.toNat, ?_⟩
    have hlen : ((zs.take len).map Int.toNat).length = len := by simp; omega
    have hok : Big.Ok ((zs.take len).map Int.toNat) := fun x hx => by
      obtain ⟨n, hn, rfl⟩ := List.mem_map.1 hx
      have := bounds_u32 (hw n (List.mem_of_mem_take hn))
      omega
    have key := Big.Arr.mk (w := W) (A := some a) (c := cap) hok (by rw [hlen]; exact hl) hm (fun hp => by
      rw [hlen] at hp ⊢
      obtain ⟨b, off, rfl, hcell⟩ := ints_at hc (by omega)
      have h0 := hcell 0 (by omega)
      refine ⟨b, off, rfl, World.block_lt_of_cell? W _ h0, fun j hj => ?_⟩
      rw [hcell j (by omega)]
      have hj2 : j < zs.length := by omega
      have hb := bounds_u32 (hw zs[j] (List.getElem_mem hj2))
      have e1 : zs.getD j 0 = zs[j] := by rw [List.getD_eq_getElem?_getD, List.getElem?_eq_getElem hj2]; rfl
      have e2 : ((zs.take len).map Int.toNat).getD j 0 = zs[j].toNat := by
        rw [List.getD_eq_getElem?_getD, List.getElem?_map, List.getElem?_take_of_lt hj, List.getElem?_eq_getElem hj2]; rfl
      rw [e1, e2]
      unfold Big.d32
      rw [Int.toNat_of_nonneg hb.1])
    rw [hlen] at key
    exact key
theorem bool_of_trod (h : DataW.trod enc Tryd.prog W 0 (fun _ => true) true fuel 4 [v] = some y) : ∃ b, v = .bool b := by
  obtain ⟨b, hb, _⟩ := DataW.trod_bool Tryd.underlying4 h
  injection hb with hb
  exact ⟨b, hb⟩
end
section
variable {H : Type} {enc : TypeId × Value → H} {W : World} {v : Value} {d : DataW H} {p : List MemPlace} {r : Reach} {b0 : Nat}
set_option maxRecDepth 100000 in
theorem open_u32s (hv : Value.okWide Tryd.prog W r b0 41 v) (h : DataW.Trod enc Tryd.prog W 0 (fun _ => true) true 41 v d p) : ∃ xs, Big.Arr W v xs := by
  obtain ⟨a, len, cap, rfl⟩ := okWide_slice Tryd.underlying41 hv
  obtain ⟨fuel, hf⟩ := h
  obtain ⟨xs, hxs⟩ := arr_of_trod (by simpa [Value.cells] using hf)
  exact ⟨xs, hxs⟩
end
theorem byte_of_wf {z : Int} (w : (Lit.int .u8 z).wf = true) : ∃ d : UInt8, z = (d.toNat : Int) := by
  have h := bounds_u8 w
  refine ⟨UInt8.ofNat z.toNat, ?_⟩
  have e : (UInt8.ofNat z.toNat).toNat = z.toNat % 2 ^ 8 := UInt8.toNat_ofNat'
  rw [e, Nat.mod_eq_of_lt (by omega)]
  omega
theorem u64_of_wf {z : Int} (w : (Lit.int .u64 z).wf = true) : ∃ n : Nat, n < 18446744073709551616 ∧ z = (n : Int) := by
  have h := bounds_u64 w
  exact ⟨z.toNat, by omega, by omega⟩
theorem str_of_bytes {s : ByteArray} (h : s.size ≤ maxLen) : ∃ l : List UInt8, l.length ≤ maxLen ∧ s = ⟨l.toArray⟩ := by
  refine ⟨s.data.toList, by simpa using h, ?_⟩
  apply ByteArray.ext
  simp
end Go.Proofs.YtelgknpdiaafaaaDoor
